/- Lemmas; each is under no condition but those that it states. -/
import Derived.Test.YtcpnjmcipainpaaGreatDoorPr16
import Derived.Laws.Cover1
namespace Go.Proofs.YtcpnjmcipainpaaGreatDoor
set_option linter.unusedSimpArgs false
set_option linter.unusedVariables false
set_option maxRecDepth 100000
set_option maxHeartbeats 16000000
open Go Go.RowKit
abbrev Pair:=vB × vB
def jdI(k:vB):Bool:=decide (0 < k.size/\k.size<=6)
def jdc(k:vB):Bool:=decide (0 < k.size/\k.size<=80)
theorem jbh{s:vB}(h:s.size=0):s=⟨#[]⟩:=by
 obtain⟨⟨l⟩⟩:=s
 cases l with
 | nil=>rfl
 | cons x y=>exact absurd h (Nat.succ_ne_zero _)
theorem jgF(w:World)(k:vB)(hs:k.size<=9223372036854775807):vQ 103 #[.string k] w fun e w'=>e=.returned (.bool (jdI k))/\w'=w:=by
 by_cases h0:k.size=0
 ·have:=jbh h0
  subst this;go_enter Tryz.func103,Tryz.ntmps103;go_wp2_with fail
  go_ret
  exact⟨rfl,rfl⟩
 ·have hne:=ja8 (s:=k) vO
  by_cases h6:k.size<=6
  ·have c:(k.size:Int)<=6:=by omega
   have e:jdI k=true:=by unfold jdI;simp;omega
   have E:=Hd e;clear e;go_enter Tryz.func103,Tryz.ntmps103;go_wp2_with fail
   go_ret
   exact⟨by rw[E.o];rfl,rfl⟩
  ·have c:¬(k.size:Int)<=6:=by omega
   have e:jdI k=false:=by unfold jdI;simp;omega
   have E:=Hd e;clear e;go_enter Tryz.func103,Tryz.ntmps103;go_wp2_with fail
   go_ret
   exact⟨by rw[E.o];rfl,rfl⟩
theorem jgg(w:World)(k:vB)(hs:k.size<=9223372036854775807):vQ 104 #[.string k] w fun e w'=>e=.returned (.bool (jdc k))/\w'=w:=by
 by_cases h0:k.size=0
 ·have:=jbh h0
  subst this;go_enter Tryz.func104,Tryz.ntmps104;go_wp2_with fail
  go_ret
  exact⟨rfl,rfl⟩
 ·have hne:=ja8 (s:=k) vO
  by_cases h6:k.size<=80
  ·have c:(k.size:Int)<=80:=by omega
   have e:jdc k=true:=by unfold jdc;simp;omega
   have E:=Hd e;clear e;go_enter Tryz.func104,Tryz.ntmps104;go_wp2_with fail
   go_ret
   exact⟨by rw[E.o];rfl,rfl⟩
  ·have c:¬(k.size:Int)<=80:=by omega
   have e:jdc k=false:=by unfold jdc;simp;omega
   have E:=Hd e;clear e;go_enter Tryz.func104,Tryz.ntmps104;go_wp2_with fail
   go_ret
   exact⟨by rw[E.o];rfl,rfl⟩
def RdP(w:World)(v:Value)(xs:List Pair):Prop:=
 (∃ a c,v=.slice a 0 c/\xs=[])\/∃ b o c,v=.slice (some ⟨b,o,none⟩) xs.length c/\b < w.heap.size/\xs.length<=c/\∀ (j:Nat) x,xs[j]?=some x->w.cell? ⟨b,o+j * 2,none⟩=some (.string x.1)/\w.cell? ⟨b,o+j * 2+1,none⟩=some (.string x.2)
theorem RdP.ext{w w':World}{v:Value}{xs:List Pair}(h:RdP w v xs)(k:Ext w w'):RdP w' v xs:=by
 rcases h with h |⟨b,o,c,h1,h2,h3,h4⟩
 ·exact .inl h
 ·exact .inr ⟨b,o,c,h1,Nat.lt_of_lt_of_le h2 k.size,h3,fun j x hx=>⟨jaa (h4 j x hx).1 k,jaa (h4 j x hx).2 k⟩⟩
theorem RdP.sl{w:World}{v:Value}{xs:List Pair}(h:RdP w v xs):∃ a c,v=.slice a xs.length c:=by
 rcases h with⟨a,c,h1,h2⟩ |⟨b,o,c,h1,_⟩
 ·exact⟨a,c,by rw[h1,h2];rfl⟩
 ·exact⟨_,c,h1⟩
def Pair.V(p:Pair):Value:=.agg #[.string p.1,.string p.2]
def badN(l:List Pair)(i:Nat):Bool := !jdI (l.getD i (⟨#[]⟩,⟨#[]⟩)).1 || !jdc (l.getD i (⟨#[]⟩,⟨#[]⟩)).2 ||(decide (0 < i) && !jdQ (l.getD (i - 1) (⟨#[]⟩,⟨#[]⟩)).1 (l.getD i (⟨#[]⟩,⟨#[]⟩)).1)
def jaG(l:List Pair):Int:=if (List.range l.length).any (badN l)then 1 else if 40 < l.length then 12 else 0
def jwq(w:World)(l:List Pair)(i:Value)(wr:World):Prop:=∃ k:Nat,k<=l.length/\i=.int .i64 k/\Ext w wr/\(List.range k).any (badN l)=false
theorem jgs(w:World)(v:Value)(l:List Pair)(hv:RdP w v l)(hn:l.length<=9223372036854775807)(hs:∀ p∈l,p.1.size<=9223372036854775807/\p.2.size<=9223372036854775807):vR 47 #[v] w (.int .i64 (jaG l)):=by
 obtain⟨a,c,hsl⟩:=hv.sl
 have HV:=Hd hv;have HS:=Hd hs;subst hsl;clear hv hs;go_enter Tryz.func47,Tryz.ntmps47;go_wp2_with fail
 go_loopw [7] (fun i wr=>jwq w l i wr) (fun i _=>l.length - (intOf i).toNat)
 case atStart=>exact⟨0,by omega,rfl,ExtR w,rfl⟩
 case round =>
  obtain⟨k,hk,rfl,hE,hall⟩:=hrel
  have HE:=Hd hE;have HALL:=Hd hall;clear hE hall
  by_cases hlt:k < l.length
  ·rcases HV.o with⟨_,_,_,h0⟩ |⟨b,o,c',hh,hb,hc,hcell⟩
   ·rw[h0]at hlt;cases hlt
   cases hh
   obtain⟨p,hp⟩:∃ p,l[k]?=some p:=⟨_,List.getElem?_eq_getElem hlt⟩
   obtain⟨q1,q2⟩:=hcell k p hp
   have q1:=jaa q1 HE.o;have q2:=jaa q2 HE.o;have b1:(k:Int) < (l.length:Int):=by omega
   obtain⟨x,y⟩:=p
   simp only at q1 q2;have hgd:l.getD k (⟨#[]⟩,⟨#[]⟩)=(x,y):=by rw[List.getD_eq_getElem?_getD,hp];rfl
   have hsx:=HS.o (x,y) (List.mem_of_getElem? hp);have HSX:=Hd hsx.1;have HSY:=Hd hsx.2;have hq0:(wr.alloc (.cells #[.string x,.string y] 95)).cell? ⟨wr.heap.size,0,none⟩=some (.string x):=(Blk.new wr _).cell vF;have hq1:(wr.alloc (.cells #[.string x,.string y] 95)).cell? ⟨wr.heap.size,1,none⟩=some (.string y):=(Blk.new wr _).cell vF;have Q0:=Hd hq0;have Q1:=Hd hq1;have hbadk:badN l k=true->jaG l=1:=fun h=>by
    unfold jaG;rw[if_pos (List.any_eq_true.2 ⟨k,List.mem_range.2 hlt,h⟩)]
   have hnext:badN l k=false->(List.range (k+1)).any (badN l)=false:=fun h=>by
    rw[List.range_succ,List.any_append,HALL.o];simp[h]
   cases hk1:jdI x with
   | false =>
    have HBAD:=Hd (hbadk (by unfold badN;rw[hgd,hk1];rfl));have HK:=Hd hk1;clear hk1 hgd hsx hq0 hq1 hbadk hnext hcell hp;go_wp2_with fail
    refine jai (List.range 25) Ext ExtR ExtT vY vY vY ?_;simp only[List.range,List.range.loop]
    refine vK ?_
    refine qKL ⟨wr.heap.size,0,none⟩ _ rfl (fun w2 h2=>jab Tryz.uStr rfl (jaa (by exact Q0.o) h2)) ?_;refine vS ?_;refine qKC _ 103 #[.string x] (.bool false) rfl (fun w1=>jay (vX 103) vY) (fun w1 h1=>(jgF w1 x (by have:=HSX.o;omega)).mono (fun e w2 ⟨h1,h2⟩=>⟨by rw[h1,HK.o],h2 ▸ ExtR w1⟩)) ?_;refine vS ?_;iterate 2 refine vK ?_
    iterate 4 (refine qKS _ rfl ?_;refine vS ?_)
    iterate 2 refine vK ?_
    iterate 3 (refine qKS _ rfl ?_;refine vS ?_)
    iterate 9 (refine qKS _ rfl ?_;refine vS ?_)
    (refine qKS _ rfl ?_;refine vS ?_)
    refine vK ?_
    refine qKE (fun w3 he=>?_);have HE3:=Hd (((HE.o.alloc _).trans (jaj _)).trans he);clear he;go_wp2_with fail
    go_ret
    exact⟨by rw[HBAD.o];rfl,HE3.o⟩
   | true =>
    cases hv1:jdc y with
    | false =>
     have HBAD:=Hd (hbadk (by unfold badN;rw[hgd,hk1,hv1];rfl));have HK:=Hd hk1;have HVV:=Hd hv1;clear hk1 hv1 hgd hsx hq0 hq1 hbadk hnext hcell hp;go_wp2_with fail
     refine jai (List.range 25) Ext ExtR ExtT vY vY vY ?_;simp only[List.range,List.range.loop]
     refine vK ?_
     refine qKL ⟨wr.heap.size,0,none⟩ _ rfl (fun w2 h2=>jab Tryz.uStr rfl (jaa (by exact Q0.o) h2)) ?_;refine vS ?_;refine qKC _ 103 #[.string x] (.bool true) rfl (fun w1=>jay (vX 103) vY) (fun w1 h1=>(jgF w1 x (by have:=HSX.o;omega)).mono (fun e w2 ⟨h1,h2⟩=>⟨by rw[h1,HK.o],h2 ▸ ExtR w1⟩)) ?_;refine vS ?_;iterate 3 refine vK ?_
     refine qKL ⟨wr.heap.size,1,none⟩ _ rfl (fun w2 h2=>jab Tryz.uStr rfl (jaa (by exact Q1.o) h2)) ?_;refine vS ?_;refine qKC _ 104 #[.string y] (.bool false) rfl (fun w1=>jay (vX 104) vY) (fun w1 h1=>(jgg w1 y (by have:=HSY.o;omega)).mono (fun e w2 ⟨h1,h2⟩=>⟨by rw[h1,HVV.o],h2 ▸ ExtR w1⟩)) ?_;refine vS ?_;iterate 3 refine vK ?_
     iterate 3 (refine qKS _ rfl ?_;refine vS ?_)
     iterate 9 (refine qKS _ rfl ?_;refine vS ?_)
     (refine qKS _ rfl ?_;refine vS ?_)
     refine vK ?_
     refine qKE (fun w3 he=>?_);have HE3:=Hd (((HE.o.alloc _).trans (jaj _)).trans he);clear he;go_wp2_with fail
     go_ret
     exact⟨by rw[HBAD.o];rfl,HE3.o⟩
    | true =>
     by_cases hk0:k=0
     ·have HNEXT:=Hd (hnext (by unfold badN;rw[hgd,hk1,hv1,hk0];rfl))
      subst hk0;rw[Nat.zero_mul,Nat.add_zero]at q1 q2;have HK:=Hd hk1;have HVV:=Hd hv1;clear hk1 hv1 hgd hsx hq0 hq1 hbadk hnext hcell hp;go_wp2_with fail
      refine jai (List.range 25) Ext ExtR ExtT vY vY vY ?_;simp only[List.range,List.range.loop]
      refine vK ?_
      refine qKL ⟨wr.heap.size,0,none⟩ _ rfl (fun w2 h2=>jab Tryz.uStr rfl (jaa (by exact Q0.o) h2)) ?_;refine vS ?_;refine qKC _ 103 #[.string x] (.bool true) rfl (fun w1=>jay (vX 103) vY) (fun w1 h1=>(jgF w1 x (by have:=HSX.o;omega)).mono (fun e w2 ⟨h1,h2⟩=>⟨by rw[h1,HK.o],h2 ▸ ExtR w1⟩)) ?_;refine vS ?_;iterate 3 refine vK ?_
      refine qKL ⟨wr.heap.size,1,none⟩ _ rfl (fun w2 h2=>jab Tryz.uStr rfl (jaa (by exact Q1.o) h2)) ?_;refine vS ?_;refine qKC _ 104 #[.string y] (.bool true) rfl (fun w1=>jay (vX 104) vY) (fun w1 h1=>(jgg w1 y (by have:=HSY.o;omega)).mono (fun e w2 ⟨h1,h2⟩=>⟨by rw[h1,HVV.o],h2 ▸ ExtR w1⟩)) ?_;refine vS ?_;iterate 6 refine vK ?_
      iterate 9 (refine qKS _ rfl ?_;refine vS ?_)
      iterate 2 refine vK ?_
      refine qKE (fun w3 he=>?_);have HE3:=Hd (((HE.o.alloc _).trans (jaj _)).trans he);clear he;go_wp2_with fail
      go_roundw
      case rel=>exact⟨0+1,by omega,by go_num,HE3.o,HNEXT.o⟩
      case measure=>simp[intOf];omega
     ·obtain⟨pp,hpp⟩:∃ p,l[k - 1]?=some p:=⟨_,List.getElem?_eq_getElem vO⟩
      obtain⟨z,zy⟩:=pp
      have hqp:=jaa (jaa (hcell (k - 1) (z,zy) hpp).1 HE.o) ((ExtR wr).alloc (.cells #[.string x,.string y] 95));have QP:=Hd hqp;have hgp:l.getD (k - 1) (⟨#[]⟩,⟨#[]⟩)=(z,zy):=by rw[List.getD_eq_getElem?_getD,hpp];rfl
      have c0:(0:Int) < (k:Int):=by omega
      have d0:0 < k:=by omega
      have c1:(0:Int)<=(k:Int) - 1:=by omega
      have c2:(k:Int) - 1 < (l.length:Int):=by omega
      have c3:((k:Int) - 1).toNat=k - 1:=by omega
      have HK:=Hd hk1;have HVV:=Hd hv1;cases hls:Op.bytesLess z.toList x.toList with
      | false =>
       have HBAD:=Hd (hbadk (by unfold badN jdQ;rw[hgd,hk1,hv1,hgp];simp only;rw[hls];simp;omega));clear hk1 hv1 hgd hsx hq0 hq1 hbadk hnext hcell hp hk0 hpp hqp hgp;go_wp2_with fail
       refine jai (List.range 25) Ext ExtR ExtT vY vY vY ?_;simp only[List.range,List.range.loop]
       refine vK ?_
       refine qKL ⟨wr.heap.size,0,none⟩ _ rfl (fun w2 h2=>jab Tryz.uStr rfl (jaa (by exact Q0.o) h2)) ?_;refine vS ?_;refine qKC _ 103 #[.string x] (.bool true) rfl (fun w1=>jay (vX 103) vY) (fun w1 h1=>(jgF w1 x (by have:=HSX.o;omega)).mono (fun e w2 ⟨h1,h2⟩=>⟨by rw[h1,HK.o],h2 ▸ ExtR w1⟩)) ?_;refine vS ?_;iterate 3 refine vK ?_
       refine qKL ⟨wr.heap.size,1,none⟩ _ rfl (fun w2 h2=>jab Tryz.uStr rfl (jaa (by exact Q1.o) h2)) ?_;refine vS ?_;refine qKC _ 104 #[.string y] (.bool true) rfl (fun w1=>jay (vX 104) vY) (fun w1 h1=>(jgg w1 y (by have:=HSY.o;omega)).mono (fun e w2 ⟨h1,h2⟩=>⟨by rw[h1,HVV.o],h2 ▸ ExtR w1⟩)) ?_;refine vS ?_;iterate 11 refine vK ?_
       refine qKL ⟨b,o+(k - 1) * 2,none⟩ _ rfl (fun w2 h2=>jab Tryz.uStr rfl (jaa (by exact QP.o) h2)) ?_;refine vS ?_
       refine vK ?_
       refine qKL ⟨wr.heap.size,0,none⟩ _ rfl (fun w2 h2=>jab Tryz.uStr rfl (jaa (by exact Q0.o) h2)) ?_;refine vS ?_;iterate 3 refine vK ?_
       refine qKE (fun w3 he=>?_);have HE3:=Hd (((HE.o.alloc _).trans (jaj _)).trans he);clear he;go_wp2_with fail
       go_ret
       exact⟨by rw[HBAD.o];rfl,HE3.o⟩
      | true =>
       have HNEXT:=Hd (hnext (by unfold badN jdQ;rw[hgd,hk1,hv1,hgp];simp only;rw[hls];simp));clear hk1 hv1 hgd hsx hq0 hq1 hbadk hnext hcell hp hk0 hpp hqp hgp;go_wp2_with fail
       refine jai (List.range 25) Ext ExtR ExtT vY vY vY ?_;simp only[List.range,List.range.loop]
       refine vK ?_
       refine qKL ⟨wr.heap.size,0,none⟩ _ rfl (fun w2 h2=>jab Tryz.uStr rfl (jaa (by exact Q0.o) h2)) ?_;refine vS ?_;refine qKC _ 103 #[.string x] (.bool true) rfl (fun w1=>jay (vX 103) vY) (fun w1 h1=>(jgF w1 x (by have:=HSX.o;omega)).mono (fun e w2 ⟨h1,h2⟩=>⟨by rw[h1,HK.o],h2 ▸ ExtR w1⟩)) ?_;refine vS ?_;iterate 3 refine vK ?_
       refine qKL ⟨wr.heap.size,1,none⟩ _ rfl (fun w2 h2=>jab Tryz.uStr rfl (jaa (by exact Q1.o) h2)) ?_;refine vS ?_;refine qKC _ 104 #[.string y] (.bool true) rfl (fun w1=>jay (vX 104) vY) (fun w1 h1=>(jgg w1 y (by have:=HSY.o;omega)).mono (fun e w2 ⟨h1,h2⟩=>⟨by rw[h1,HVV.o],h2 ▸ ExtR w1⟩)) ?_;refine vS ?_;iterate 11 refine vK ?_
       refine qKL ⟨b,o+(k - 1) * 2,none⟩ _ rfl (fun w2 h2=>jab Tryz.uStr rfl (jaa (by exact QP.o) h2)) ?_;refine vS ?_
       refine vK ?_
       refine qKL ⟨wr.heap.size,0,none⟩ _ rfl (fun w2 h2=>jab Tryz.uStr rfl (jaa (by exact Q0.o) h2)) ?_;refine vS ?_;iterate 3 refine vK ?_
       refine qKE (fun w3 he=>?_);have HE3:=Hd (((HE.o.alloc _).trans (jaj _)).trans he);clear he;go_wp2_with fail
       go_roundw
       case rel=>exact⟨k+1,by omega,by go_num,HE3.o,HNEXT.o⟩
       case measure=>simp[intOf];omega
  ·have hkl:k=l.length:=by omega
   subst hkl
   by_cases h40:40 < l.length
   ·have c4:(40:Int) < (l.length:Int):=by omega
    have e:jaG l=12:=by unfold jaG;rw[if_neg (by rw[HALL.o];simp),if_pos h40]
    have E:=Hd e;clear e;go_wp2_with fail
    go_ret
    exact⟨by rw[E.o];rfl,HE.o⟩
   ·have c4:¬(40:Int) < (l.length:Int):=by omega
    have e:jaG l=0:=by unfold jaG;rw[if_neg (by rw[HALL.o];simp),if_neg h40]
    have E:=Hd e;clear e;go_wp2_with fail
    go_ret
    exact⟨by rw[E.o];rfl,HE.o⟩
section
section mixd
variable {P:Program} {l:List Oper} {E D:World->World->Prop}
def jcl(P:Program)(ops:Array Oper)(E D:World->World->Prop)(w:World)(o:Oper)(v:Value)(a:Act):Prop:=
 (Region.wanted o (yielded ops a.tmps)=true/\∀ w1,D w w1->jmA P E w1 v ((execOp a.eval o).run P w1))\/(Region.wanted o (yielded ops a.tmps)=false/\v=undef)
theorem jcl.of_same{ops:Array Oper}{w:World}{o:Oper}{v:Value}{a a':Act}(hy:jcl P ops E D w o v a)(he:execOp a'.eval o=execOp a.eval o)
  (hw:Region.wanted o (yielded ops a'.tmps)=Region.wanted o (yielded ops a.tmps)):jcl P ops E D w o v a':=by
 unfold jcl at *;rw[he,hw];exact hy
theorem jcl.st(hT:∀ x y z,D x y->D y z->D x z){ops:Array Oper}{w w1:World}{o:Oper}{v:Value}{a:Act}(hy:jcl P ops E D w o v a)(h:D w w1):jcl P ops E D w1 o v a:=
 hy.imp (fun ⟨h1,h2⟩=>⟨h1,fun w2 h'=>h2 w2 (hT _ _ _ h h')⟩) id
theorem jcl.wpOp{ops:Array Oper}{i:Nat}{o:Oper}{v:Value}{a:Act}{w:World}(hi:ops[i]?=some o)(hy:jcl P ops E D w o v a){K:Act->World->Prop}{w1:World}(h1:D w w1)(hE:∀ w,E w w)
  (h:∀ w',E w1 w'->K (a.put o.dst v) w'):wpOp P ops NoQ i K a w1:=by
 unfold Go.wpOp;simp only[hi];rcases hy with⟨hw,hv⟩ |⟨hw,rfl⟩
 ·simp only[hw,if_true]
  refine .inl ?_;have h3:=hv w1 h1;unfold Oper.wp;generalize (execOp a.eval o).run P w1=r at *;cases r with
  | ok n w' =>
   cases n <;> simp only[jmA]at h3 <;> simp only[Oper.upon]
   case value u=>obtain⟨e1,e2⟩:=h3;rw[e1,e2];exact h _ (hE w1)
   case skip=>obtain⟨e1,e2⟩:=h3;rw[e1, <-e2];exact h _ (hE w1)
   case enter f args =>
    obtain⟨e1,hcc⟩:=h3;rw[e1]
    exact hcc.mono fun e w'' ⟨he,h1⟩=>by subst he;exact h _ h1
  | halt x w'=>simp only[jmA]at h3
 ·simp only[hw,Bool.false_eq_true,if_false];exact h _ (hE w1)
def anyD(P:Program)(ops:Array Oper)(hd:List Nat)(E D:World->World->Prop)(Q:Act->World->Prop):Nat->Array Bool->Act->World->Prop
 | 0,listed,a,w=>∀ w1,E w w1->Region.ready .any ops listed=[]/\Q a w1
 | fuel+1,listed,a,w=>∀ w1,E w w1 ->
  (Region.ready .any ops listed=[]->Q a w1) /\
  ∀ i∈Region.ready .any ops listed,wpOp P ops NoQ i (fun a' w'=>D w1 w'/\(i ∉ hd->E w1 w')/\anyD P ops hd E D Q fuel (listed.setIfInBounds i true) a' w') a w1
theorem jpq(hT:∀ x y z,E x y->E y z->E x z){ops:Array Oper}{hd:List Nat}{Q:Act->World->Prop}:∀ (fuel:Nat) (listed:Array Bool) (a:Act) (w w1:World),anyD P ops hd E D Q fuel listed a w->E w w1->anyD P ops hd E D Q fuel listed a w1
 | 0,_,_,_,_,h,he=>fun w2 h2=>h w2 (hT _ _ _ he h2)
 | _+1,_,_,_,_,h,he=>fun w2 h2=>h w2 (hT _ _ _ he h2)
theorem jiB(hE:∀ w,E w w){ops:Array Oper}{hd:List Nat}{Q:Act->World->Prop}{Q':Exit->Act->World->Prop}(hQ:∀ a w,Q a w->Q' .normal a w) :
  ∀ (fuel:Nat) (listed:Array Bool) (a:Act) (w:World),anyD P ops hd E D Q fuel listed a w->wpAny P .any ops Q' fuel listed a w
 | 0,_,_,w,h=>let ⟨h1,h2⟩:=h w (hE w);⟨h1,hQ _ _ h2⟩
 | fuel+1,_,_,w,h=>let ⟨h1,h2⟩:=h w (hE w)
  ⟨fun h0=>hQ _ _ (h1 h0),fun i hi=>jhn (fun a' w' ⟨_,_,h'⟩=>jiB hE hQ fuel _ a' w' h') (h2 i hi)⟩
theorem jn9(hE:∀ w,E w w)(hT:∀ x y z,E x y->E y z->E x z)(hD:∀ x y z,D x y->D y z->D x z)(hED:∀ x y,E x y->D x y){ops:Array Oper}{hd:List Nat}{Q:Act->World->Prop}{i:Nat}{oi:Oper}{v:Value}(hi:ops[i]?=some oi)(hsel:∀ (j:Nat) (o:Oper) cs b,ops[j]?=some o->o.op≠.select cs b) :
  ∀ (fuel:Nat) (listed:Array Bool) (a:Act) (w:World),
   (∀ j oj,ops[j]?=some oj->j≠i->listed.getD j true=false->(∀ e∈oj.after,Region.binds .any e=true->e.on≠i)->oi.apart ops oj=true) ->
   i∈Region.ready .any ops listed->jcl P ops E D w oi v a ->
   anyD P ops hd E D Q fuel (listed.setIfInBounds i true) (a.put oi.dst v) w->anyD P ops hd E D Q (fuel+1) listed a w:=by
 intro fuel;induction fuel with
 | zero =>
  intro listed a w _ hr hy H w1 he
  refine⟨fun h=>(by rw[h]at hr;cases hr),fun j hj=>?_⟩
  by_cases hji:j=i
  ·subst hji;exact hy.wpOp hi (hED _ _ he) hE (fun w' h1=>⟨hED _ _ h1,fun _=>h1,jpq hT _ _ _ _ _ H (hT _ _ _ he h1)⟩)
  ·have:=ready_mono hj hji
   rw[(H w1 he).1]at this;cases this
 | succ fuel ih =>
  intro listed a w hfree hr hy H w1 he
  refine⟨fun h=>(by rw[h]at hr;cases hr),fun j hj=>?_⟩
  by_cases hji:j=i
  ·subst hji;exact hy.wpOp hi (hED _ _ he) hE (fun w' h1=>⟨hED _ _ h1,fun _=>h1,jpq hT _ _ _ _ _ H (hT _ _ _ he h1)⟩)
  ·have h1:=(H w1 he).2 j (ready_mono hj hji)
   obtain⟨hjun,oj,hoj,hall⟩:=mem_ready.1 hj
   have hnot:∀ e∈oj.after,Region.binds .any e=true->e.on≠i:=fun e he hb heq=>by
    have h1:=hall e he hb;have h0:=(mem_ready.1 hr).1;rw[heq]at h1;rcases Nat.lt_or_ge i listed.size with h' | h'
    ·simp[h']at h0 h1;rw[h0]at h1;cases h1
    ·simp[Array.getElem?_eq_none h']at h1
   have h2:=je6 (v:=v) (Y:=fun a'=>execOp a'.eval oi=execOp a.eval oi/\Region.wanted oi (yielded ops a'.tmps)=Region.wanted oi (yielded ops a.tmps)) hoj (hfree j oj hoj hji hjun hnot) (fun cs b=>hsel i oi cs b hi) (fun cs b=>hsel j oj cs b hoj)
    (fun a1 a2 h e1 e2=>⟨e1.trans h.1,e2.trans h.2⟩) ⟨rfl,rfl⟩ h1
   have hfree':∀ k ok,ops[k]?=some ok->k≠i->(listed.setIfInBounds j true).getD k true=false ->
     (∀ e∈ok.after,Region.binds .any e=true->e.on≠i)->oi.apart ops ok=true:=fun k ok hk hki hun hno=>by
    refine hfree k ok hk hki ?_ hno
    by_cases hjk:j=k
    ·subst hjk;exact hjun
    ·rw[getD_set_ne true hjk]at hun;exact hun
   refine wpOp_mono (fun a' w' h3=>⟨h3.2.1,h3.2.2.1,?_⟩) h2
   obtain⟨⟨e1,e2⟩,h4,_,h5⟩:=h3
   have hyn:jcl P ops E D w' oi v a':=(hy.of_same e1 e2).st hD (hD _ _ _ (hED _ _ he) h4);refine ih (listed.setIfInBounds j true) a' w' hfree' (ready_mono hr (Ne.symm hji)) hyn ?_;rw[Array.setIfInBounds_comm _ _ hji];exact h5
def MixD(P:Program)(l:List Oper)(hd:List Nat)(E D:World->World->Prop)(Q:Act->World->Prop):List Nat->List Nat->Act->World->Prop
 | [],done,a,w=>∀ w1,E w w1->Region.ready .any l.toArray (jbd l done)=[]/\Q a w1
 | k :: ord,done,a,w =>
  (k∈Region.ready .any l.toArray (jbd l done)/\Region.free .any l.toArray (jbd l done) k=true/\∃ o v,l[k]?=some o/\jcl P l.toArray E D w o v a/\MixD P l hd E D Q ord (k :: done) (a.put o.dst v) w) \/
  (Region.ready .any l.toArray (jbd l done)=[k]/\k∈hd/\∀ w1,E w w1->wpOp P l.toArray NoQ k (fun a' w'=>D w1 w'/\MixD P l hd E D Q ord (k :: done) a' w') a w1)
theorem jfu(hE:∀ w,E w w)(hT:∀ x y z,E x y->E y z->E x z)(hD:∀ x y z,D x y->D y z->D x z)(hED:∀ x y,E x y->D x y)(hs:Region.noSelect l.toArray=true){hd:List Nat}{Q:Act->World->Prop}:∀ (ord:List Nat) (done:List Nat) (a:Act) (w:World),
  MixD P l hd E D Q ord done a w->anyD P l.toArray hd E D Q ord.length (jbd l done) a w
 | [],_,_,_,h=>h
 | k :: ord,done,a,w,h=>by
  rcases h with⟨hr,hf,o,v,ho,hy,h⟩ |⟨hr,hk,h⟩
  ·have ho':l.toArray[k]?=some o:=by simpa using ho
   exact jn9 hE hT hD hED ho' (Region.noSelect_spec hs) ord.length (jbd l done) a w (Region.free_spec ho' hf) hr hy (jfu hE hT hD hED hs ord _ _ _ h)
  ·intro w1 he
   refine⟨fun h0=>(by rw[hr]at h0;cases h0),fun i hi=>?_⟩
   rw[hr]at hi;obtain rfl:i=k:=by simpa using hi
   exact wpOp_mono (fun a' w' h2=>⟨h2.1,fun hn=>absurd hk hn,jfu hE hT hD hED hs ord _ _ _ h2.2⟩) (h w1 he)
theorem jaD(ord hd:List Nat)(E D:World->World->Prop)(hE:∀ w,E w w)(hT:∀ x y z,E x y->E y z->E x z)(hD:∀ x y z,D x y->D y z->D x z)(hED:∀ x y,E x y->D x y){id:Nat}{Q:Exit->Act->World->Prop}{a:Act}{w:World}
  (hm:P.follows .mixedOrders=true) (hs:Region.noSelect l.toArray=true) (hl:ord.length=l.toArray.size)
  (h:MixD P l hd E D (fun a w=>Q .normal a w) ord [] a w.drew):(Code.region id l.toArray true).wp P Q a w:=by
 refine wp_region_any hm ?_;rw[<-hl]
 have:=jfu hE hT hD hED hs ord _ _ _ h
 unfold jbd at this;rw[hl]at this ⊢;exact jiB hE (fun _ _ h=>h) _ _ _ _ this
variable {Q:Act->World->Prop} {ord done hd:List Nat} {a:Act} {w:World} {k:Nat} {o:Oper}
def headD(l:List Oper)(done:List Nat)(k:Nat):Bool:=(Region.ready .any l.toArray (jbd l done)).contains k && Region.free .any l.toArray (jbd l done) k
def jpo(l:List Oper)(hd done:List Nat)(k:Nat):Bool:=Region.ready .any l.toArray (jbd l done) == [k] && hd.contains k
theorem jqM(o:Oper)(ho:l[k]?=some o)(hk:headD l done k=true)(hw:Region.wanted o (yielded l.toArray a.tmps)=true)(hq:jiT o.op=true)
  (h:∀ K:Act->Prop,(∀ a',MixD P l hd E D Q ord (k :: done) a' w->K a')->o.quiet P a (fun _=>True) K):MixD P l hd E D Q (k :: ord) done a w:=by
 simp only[headD,Bool.and_eq_true,List.contains_iff_mem]at hk
 obtain⟨v,h1,h2⟩:=h _ (fun _ h=>h)
 have key:jcl P l.toArray E D w o v a:=by
  refine .inl ⟨hw,fun w1 _=>?_⟩;have h3:=h1 w1 trivial;unfold Oper.quietAt at h3;have h4:=fun f args w'=>jjW (ρ:=a.eval) hq P w1 w' f args;generalize (execOp a.eval o).run P w1=r at *;cases r with
  | ok n w'=>cases n <;> simp only[Oper.quietUpon]at h3 <;> first | exact h3 | exact absurd rfl (h4 _ _ _)
  | halt x w'=>simp only[Oper.quietUpon]at h3
 exact .inl ⟨hk.1,hk.2,o,v,ho,key,h2⟩
theorem jnx(o:Oper)(v:Value)(ho:l[k]?=some o)(hk:headD l done k=true)(hw:Region.wanted o (yielded l.toArray a.tmps)=true)
  (hv:∀ w1,D w w1->(execOp a.eval o).run P w1=.ok (.value v) w1) (h:MixD P l hd E D Q ord (k :: done) (a.put o.dst v) w):MixD P l hd E D Q (k :: ord) done a w:=by
 simp only[headD,Bool.and_eq_true,List.contains_iff_mem]at hk;exact .inl ⟨hk.1,hk.2,o,v,ho,.inl ⟨hw,fun w1 hc=>by rw[hv w1 hc];exact⟨rfl,rfl⟩⟩,h⟩
theorem qDV(o:Oper)(v:Value)(ho:l[k]?=some o)(hv:∀ w1,D w w1->(execOp a.eval o).run P w1=.ok (.value v) w1)(h:MixD P l hd E D Q ord (k :: done) (a.put o.dst v) w)(hk:headD l done k=true:=by kernel_rfl)(hw:Region.wanted o (yielded l.toArray a.tmps)=true:=by rfl):MixD P l hd E D Q (k :: ord) done a w:=jnx o v ho hk hw hv h
theorem jqL(p:Addr)(v:Value){t:TypeId}{x:Operand}{d:Option Tmp}{ty:TypeId}{pos:String}{af:Array Edge}{g:Option (Nat × Bool)}(ho:l[k]?=some ⟨d,.load t x,ty,pos,af,g⟩)(hk:headD l done k=true)
  (hw:Region.wanted ⟨d,.load t x,ty,pos,af,g⟩ (yielded l.toArray a.tmps)=true) (hx:a.eval x=.pointer (some p))
  (hv:∀ w1,D w w1->(Instr.loadAt t (.pointer (some p))).run P w1=.ok v w1) (h:MixD P l hd E D Q ord (k :: done) (a.put d v) w):MixD P l hd E D Q (k :: ord) done a w:=by
 refine jnx _ v ho hk hw (fun w1 hc=>?_) h
 have:=hv w1 hc
 simp only[execOp,hx,Sem.run_bind,this,Result.andThen,Sem.run_pure]
theorem qDL{t:TypeId}{x:Operand}{d:Option Tmp}{ty:TypeId}{pos:String}{af:Array Edge}{g:Option (Nat × Bool)}(p:Addr)(v:Value)(ho:l[k]?=some ⟨d,.load t x,ty,pos,af,g⟩)(hv:∀ w1,D w w1->(Instr.loadAt t (.pointer (some p))).run P w1=.ok v w1)(h:MixD P l hd E D Q ord (k :: done) (a.put d v) w)(hk:headD l done k=true:=by kernel_rfl)(hw:Region.wanted ⟨d,.load t x,ty,pos,af,g⟩ (yielded l.toArray a.tmps)=true:=by rfl)(hx:a.eval x=.pointer (some p):=by rfl):MixD P l hd E D Q (k :: ord) done a w:=jqL p v ho hk hw hx hv h
theorem jhW(o:Oper)(f:FuncId)(args:Array Value)(v:Value)(ho:l[k]?=some o)(hk:headD l done k=true)(hw:Region.wanted o (yielded l.toArray a.tmps)=true)
  (hv:∀ w1,(execOp a.eval o).run P w1=.ok (.enter f args) w1) (hc:∀ w1,D w w1->Calls P f args w1 (fun e w2=>e=.returned v/\E w1 w2))
  (h:MixD P l hd E D Q ord (k :: done) (a.put o.dst v) w):MixD P l hd E D Q (k :: ord) done a w:=by
 simp only[headD,Bool.and_eq_true,List.contains_iff_mem]at hk;exact .inl ⟨hk.1,hk.2,o,v,ho,.inl ⟨hw,fun w1 hw1=>by rw[hv w1];exact⟨rfl,hc w1 hw1⟩⟩,h⟩
theorem jqK(o:Oper)(ho:l[k]?=some o)(hk:jpo l hd done k=true)(hw:Region.wanted o (yielded l.toArray a.tmps)=true)
  (h:∀ w1,E w w1->∀ K:Act->World->Prop,(∀ a' w',D w1 w'->MixD P l hd E D Q ord (k :: done) a' w'->K a' w')->o.wp P a w1 K NoQ):MixD P l hd E D Q (k :: ord) done a w:=by
 simp only[jpo,Bool.and_eq_true,beq_iff_eq,List.contains_iff_mem]at hk;refine .inr ⟨hk.1,hk.2,fun w1 he=>?_⟩;unfold wpOp;have ho':l.toArray[k]?=some o:=by simpa using ho
 simp only[ho',hw,if_true];exact .inl (h w1 he _ (fun _ _ h1 h2=>⟨h1,h2⟩))
theorem qDH(o:Oper)(ho:l[k]?=some o)(h:∀ w1,E w w1->∀ K:Act->World->Prop,(∀ a' w',D w1 w'->MixD P l hd E D Q ord (k :: done) a' w'->K a' w')->o.wp P a w1 K NoQ)(hk:jpo l hd done k=true:=by kernel_rfl)(hw:Region.wanted o (yielded l.toArray a.tmps)=true:=by rfl):MixD P l hd E D Q (k :: ord) done a w:=jqK o ho hk hw h
theorem jtj(hk:(Region.ready .any l.toArray (jbd l done)).isEmpty=true)(h:∀ w1,E w w1->Q a w1):MixD P l hd E D Q [] done a w:=
 fun w1 he=>⟨by simpa using hk,h w1 he⟩
theorem qDE(h:∀ w1,E w w1->Q a w1)(hk:(Region.ready .any l.toArray (jbd l done)).isEmpty=true:=by kernel_rfl):MixD P l hd E D Q [] done a w:=jtj hk h
end mixd
end
def jdX(xs:List Pair):List Value:=xs.flatMap fun p=>[.string p.1,.string p.2]
theorem jgr(xs:List Pair):(jdX xs).length=xs.length * 2:=by
 induction xs with
 | nil=>rfl
 | cons x r ih=>unfold jdX at *;rw[List.flatMap_cons,List.length_append,ih];simp;omega
theorem jbC(xs ys:List Pair):jdX (xs++ys)=jdX xs++jdX ys:=by simp[jdX]
theorem je8:∀ (xs:List Pair) (j:Nat) (p:Pair),xs[j]?=some p->(jdX xs)[j * 2]?=some (.string p.1)/\(jdX xs)[j * 2+1]?=some (.string p.2)
 | [],j,p,h=>by simp at h
 | x :: r,0,p,h=>by simp at h;subst h;exact⟨rfl,rfl⟩
 | x :: r,j+1,p,h=>by
  have:=je8 r j p (by simpa using h)
  rw[show (j+1) * 2=j * 2+1+1 by omega];exact this
theorem Tryz.uRows:Tryz.prog.underlying 112=some (.slice 187):=by kernel_rfl
theorem Tryz.infoRow:(Tryz.prog.info? 187).map (fun i=>(i.zero,i.size,i.bytes))=some (some (.agg #[.string ⟨#[]⟩,.string ⟨#[]⟩]),2,32):=by kernel_rfl
theorem Tryz.sRows:jeF Tryz.prog 112 187 2 32:=jeF.mk' Tryz.uRows Tryz.infoRow rfl vI
abbrev PRow(w0 w:World)(v:Value)(n:Nat)(xs:List Pair):Prop:=ORow 187 2 w0 w v n (jdX xs)
theorem PRow.rd{w0 w:World}{v:Value}{n:Nat}{xs:List Pair}(h:PRow w0 w v n xs):RdP w v xs:=by
 have hl:xs.length=n:=by have:=h.len;rw[jgr]at this;omega
 obtain⟨_,⟨rfl,h2⟩ |⟨g,cap,cur,rfl,h3,h4,h5,h6,h7⟩⟩:=h.own
 ·exact .inl ⟨none,0,rfl,List.eq_nil_of_length_eq_zero vO⟩
 ·subst hl
  refine .inr ⟨g,0,cap,rfl,(Array.getElem?_eq_some_iff.1 h4).1,h5,fun j x hx=>?_⟩;have hj:=(List.getElem?_eq_some_iff.1 hx).1
  obtain⟨e1,e2⟩:=je8 xs j x hx
  exact⟨by rw[Nat.zero_add,h.own.cellAt (j * 2) vO,e1],by rw[Nat.zero_add,h.own.cellAt (j * 2+1) vO,e2]⟩
def jaO(l:List Pair):List Pair:=l.map fun p=>(ja5 p.1,p.2)
def juO(w:World)(l:List Pair)(v i:Value)(wr:World):Prop:=∃ k:Nat,k<=l.length/\i=.int .i64 k/\PRow w wr v k ((jaO l).take k)
theorem jvH{w:World}{T:TypeId}{sz:Nat}{w0:World}{v:Value}{n:Nat}{xs:List Value}(h:ORow T sz w0 w v n xs):¬ v.ownBlock=some w.heap.size:=fun e=>by have:=h.lt _ e;omega
theorem juu(w:World)(v:Value)(l:List Pair)(hv:RdP w v l)(hn:l.length<=1000000)(hs:∀ p∈l,p.1.size<=1000000):vQ 79 #[v] w fun e w'=>∃ u,e=.returned u/\PRow w w' u l.length (jaO l):=by
 obtain⟨a,c,hsl⟩:=hv.sl
 have HV:=Hd hv;have HS:=Hd hs;subst hsl;clear hv hs
 obtain⟨i0,hi,hz0,hz1,hz2⟩:=info_parts Tryz.infoRow
 obtain⟨w1,hmk0,hown,hgr⟩:=run_make_own (P:=Tryz.prog) (w:=w) w.heap.size 112 187 i0 _ 2 Tryz.uRows hi hz0 hz1 .i64 .i64 l.length (by rw[hz2];omega) (by unfold maxLen;omega) (Nat.le_refl _)
 have HO:=Hd hown;have HG:=Hd hgr;clear hown hgr;go_enter Tryz.func79,Tryz.ntmps79;go_wp2_with fail
 go_loopw [3,11] (fun v i wr=>juO w l v i wr) (fun _ i _=>l.length - (intOf i).toNat)
 case atStart=>exact⟨0,Nat.zero_le _,rfl,ORow.made w HO.o HG.o⟩
 case round =>
  obtain⟨k,hk,rfl,hR⟩:=hrel
  obtain⟨a2,c2,rfl⟩:=hR.sl
  have HR:=Hd hR;clear hR
  by_cases hlt:k < l.length
  ·rcases HV.o with⟨_,_,_,h0⟩ |⟨b,o,c',hh,hb,hc,hcell⟩
   ·rw[h0]at hlt;cases hlt
   cases hh
   obtain⟨p,hp⟩:∃ p,l[k]?=some p:=⟨_,List.getElem?_eq_getElem hlt⟩
   obtain⟨q1,q2⟩:=hcell k p hp
   have q1:=jaa q1 HR.o.ext;have q2:=jaa q2 HR.o.ext;have hsp:=HS.o p (List.mem_of_getElem? hp)
   obtain⟨x,y⟩:=p
   simp only at q1 q2 hsp;have b1:(k:Int) < (l.length:Int):=by omega
   have hrl:(jaO l).take (k+1)=(jaO l).take k++[(ja5 x,y)]:=by
    rw[List.take_add_one];unfold jaO;rw[List.getElem?_map,hp];rfl
   have HRL:=Hd hrl;have HSP:=Hd hsp;have Q0:=Hd (show (wr.alloc (.cells #[.string x,.string y] 95)).cell? ⟨wr.heap.size,0,none⟩=some (.string x)from(Blk.new wr _).cell vF);have Q1:=Hd (show (wr.alloc (.cells #[.string x,.string y] 95)).cell? ⟨wr.heap.size,1,none⟩=some (.string y)from(Blk.new wr _).cell vF);have NB:=Hd (jvH HR.o);clear hcell hp hsp hrl;go_wp2_with fail
   refine jaD [0,1,2,3,4,5,6,7,8,9] [7,8] Ext (jae (fun b=>(Value.slice a2 k c2).ownBlock=some b)) ExtR ExtT (fun x y z h k=>jae.trans h k) (fun x y h=>h.mono (fun _ _ h=>h.elim)) vY vY vY ?_;iterate 2 refine vD ?_
   refine qDL ⟨wr.heap.size,0,none⟩ _ rfl (fun w2 h2=>jab Tryz.uStr rfl (jaw (by exact Q0.o) h2 NB.o)) ?_;refine vS ?_;refine jhW _ 90 #[.string x] (.string (ja5 x)) rfl vY rfl (fun w1=>jay (vX 90) vY) (fun w1 h1=>ji0 w1 x HSP.o) ?_;refine vS ?_
   refine vD ?_
   refine qDL ⟨wr.heap.size,1,none⟩ _ rfl (fun w2 h2=>jab Tryz.uStr rfl (jaw (by exact Q1.o) h2 NB.o)) ?_;refine vS ?_
   refine vD ?_
   refine qDH _ rfl (fun w2 he K hK=>?_);have HR2:=Hd (HR.o.mono ((((ExtR wr).alloc _).trans (jaj _)).trans he));clear he HR;go_simp;refine hK _ _ ((jae.refl _ w2).alloc _) ?_;clear hK K;refine qDH _ rfl (fun w3 he K hK=>?_);have HR3:=Hd (HR2.o.mono (((ExtR w2).alloc _).trans he));have hB:∀ j u,([.string (ja5 x),.string y]:List Value)[j]?=some u->w3.cell? ((⟨w2.heap.size,0,none⟩:Addr).add j)=some u:=fun j u hj=>jaa (jaS (Blk.new w2 (.cells [Value.string (ja5 x),.string y].toArray 187)) j u hj) he;refine jgY Tryz.sRows HR3.o (.tmp 15) (.tmp 22) rfl rfl hB (by intro u hu;simp at hu;rcases hu with rfl | rfl <;> rfl) rfl rfl (by unfold maxLen;omega) vO (fun v' w4 r1 r2 r3=>hK _ _ r2 ?_);have r1':PRow w w4 v' (k+1) ((jaO l).take (k+1)):=by
    unfold PRow;rw[HRL.o,jbC];exact r1
   have HR4:=Hd r1';clear hK K he r1 r2 r3 r1' hB HR2 HR3
   obtain⟨a4,c4,rfl⟩:=HR4.o.sl
   refine vS ?_
   refine vD ?_
   refine qDE (fun w5 he=>?_);have HR5:=Hd (HR4.o.mono he);clear he HR4;go_wp2_with fail
   go_roundw
   case rel=>exact⟨k+1,by omega,by go_num,HR5.o⟩
   case measure=>simp[intOf];omega
  ·have hkl:k=l.length:=by omega
   subst hkl;go_wp2;go_ret;have h:=HR.o;rw[List.take_of_length_le (by simp[jaO])]at h
   exact⟨_,rfl,h⟩
def jal(d:Nat)(l:List Pair):List Pair:=l.map fun p=>(p.1.extract d p.1.size,p.2)
def juB(w:World)(d:Nat)(l:List Pair)(v i:Value)(wr:World):Prop:=∃ k:Nat,k<=l.length/\i=.int .i64 k/\PRow w wr v k ((jal d l).take k)
theorem jlO(w:World)(v:Value)(d:Nat)(l:List Pair)(hv:RdP w v l)(hn:l.length<=1000000)(hs:∀ p∈l,d<=p.1.size/\p.1.size<=1000000):vQ 126 #[v,.int .i64 d] w fun e w'=>∃ u,e=.returned u/\PRow w w' u l.length (jal d l):=by
 obtain⟨a,c,hsl⟩:=hv.sl
 have HV:=Hd hv;have HS:=Hd hs;subst hsl;clear hv hs
 obtain⟨i0,hi,hz0,hz1,hz2⟩:=info_parts Tryz.infoRow
 obtain⟨w1,hmk0,hown,hgr⟩:=run_make_own (P:=Tryz.prog) (w:=w) w.heap.size 112 187 i0 _ 2 Tryz.uRows hi hz0 hz1 .i64 .i64 l.length (by rw[hz2];omega) (by unfold maxLen;omega) (Nat.le_refl _)
 have HO:=Hd hown;have HG:=Hd hgr;clear hown hgr;go_enter Tryz.func126,Tryz.ntmps126;go_wp2_with fail
 go_loopw [5,13] (fun v i wr=>juB w d l v i wr) (fun _ i _=>l.length - (intOf i).toNat)
 case atStart=>exact⟨0,Nat.zero_le _,rfl,ORow.made w HO.o HG.o⟩
 case round =>
  obtain⟨k,hk,rfl,hR⟩:=hrel
  obtain⟨a2,c2,rfl⟩:=hR.sl
  have HR:=Hd hR;clear hR
  by_cases hlt:k < l.length
  ·rcases HV.o with⟨_,_,_,h0⟩ |⟨b,o,c',hh,hb,hc,hcell⟩
   ·rw[h0]at hlt;cases hlt
   cases hh
   obtain⟨p,hp⟩:∃ p,l[k]?=some p:=⟨_,List.getElem?_eq_getElem hlt⟩
   obtain⟨q1,q2⟩:=hcell k p hp
   have q1:=jaa q1 HR.o.ext;have q2:=jaa q2 HR.o.ext;have hsp:=HS.o p (List.mem_of_getElem? hp)
   obtain⟨x,y⟩:=p
   simp only at q1 q2 hsp;have b1:(k:Int) < (l.length:Int):=by omega
   have b2:(d:Int)<=(x.size:Int):=by omega
   have hrl:(jal d l).take (k+1)=(jal d l).take k++[(x.extract d x.size,y)]:=by
    rw[List.take_add_one];unfold jal;rw[List.getElem?_map,hp];rfl
   have HRL:=Hd hrl;have Q0:=Hd (show (wr.alloc (.cells #[.string x,.string y] 187)).cell? ⟨wr.heap.size,0,none⟩=some (.string x)from(Blk.new wr _).cell vF);have Q1:=Hd (show (wr.alloc (.cells #[.string x,.string y] 187)).cell? ⟨wr.heap.size,1,none⟩=some (.string y)from(Blk.new wr _).cell vF);have NB:=Hd (jvH HR.o);clear hcell hp hsp hrl;go_wp2_with fail
   refine jaD [0,1,2,3,4,5,6,7,8,9,10] [8,9] Ext (jae (fun b=>(Value.slice a2 k c2).ownBlock=some b)) ExtR ExtT (fun x y z h k=>jae.trans h k) (fun x y h=>h.mono (fun _ _ h=>h.elim)) vY vY vY ?_;iterate 2 refine vD ?_
   refine qDL ⟨wr.heap.size,0,none⟩ _ rfl (fun w2 h2=>jab Tryz.uStr rfl (jaw (by exact Q0.o) h2 NB.o)) ?_;refine vS ?_;iterate 3 refine vD ?_
   refine qDL ⟨wr.heap.size,1,none⟩ _ rfl (fun w2 h2=>jab Tryz.uStr rfl (jaw (by exact Q1.o) h2 NB.o)) ?_;refine vS ?_
   refine vD ?_
   refine qDH _ rfl (fun w2 he K hK=>?_);have HR2:=Hd (HR.o.mono ((((ExtR wr).alloc _).trans (jaj _)).trans he));clear he HR;go_simp;refine hK _ _ ((jae.refl _ w2).alloc _) ?_;clear hK K;refine qDH _ rfl (fun w3 he K hK=>?_);have HR3:=Hd (HR2.o.mono (((ExtR w2).alloc _).trans he));have hB:∀ j u,([.string (x.extract d x.size),.string y]:List Value)[j]?=some u->w3.cell? ((⟨w2.heap.size,0,none⟩:Addr).add j)=some u:=fun j u hj=>jaa (jaS (Blk.new w2 (.cells [Value.string (x.extract d x.size),.string y].toArray 187)) j u hj) he;refine jgY Tryz.sRows HR3.o (.tmp 17) (.tmp 25) rfl rfl hB (by intro u hu;simp at hu;rcases hu with rfl | rfl <;> rfl) rfl rfl (by unfold maxLen;omega) vO (fun v' w4 r1 r2 r3=>hK _ _ r2 ?_);have r1':PRow w w4 v' (k+1) ((jal d l).take (k+1)):=by
    unfold PRow;rw[HRL.o,jbC];exact r1
   have HR4:=Hd r1';clear hK K he r1 r2 r3 r1' hB HR2 HR3
   obtain⟨a4,c4,rfl⟩:=HR4.o.sl
   refine vS ?_
   refine vD ?_
   refine qDE (fun w5 he=>?_);have HR5:=Hd (HR4.o.mono he);clear he HR4;go_wp2_with fail
   go_roundw
   case rel=>exact⟨k+1,by omega,by go_num,HR5.o⟩
   case measure=>simp[intOf];omega
  ·have hkl:k=l.length:=by omega
   subst hkl;go_wp2;go_ret;have h:=HR.o;rw[List.take_of_length_le (by simp[jal])]at h
   exact⟨_,rfl,h⟩
def jeW(i:Nat)(p:Pair):Bool:=match p.1.data.toList with | []=>false | a :: _=>a.toNat == i
theorem jtz{x y:vB}(i:Nat)(h:0 < x.size):jeW i (x,y)=(x[0].toNat == i):=by
 obtain⟨⟨l⟩⟩:=x
 cases l with
 | nil=>exact absurd h (Nat.lt_irrefl 0)
 | cons a r=>rfl
theorem jsr(a b:Nat):((a:Int) ==(b:Int))=(a == b):=by
 by_cases h:a=b
 ·subst h;simp
 ·have h2:¬(a:Int)=(b:Int):=by omega
  rw[beq_eq_false_iff_ne.2 h,beq_eq_false_iff_ne.2 h2]
theorem jxG(w:World)(x y:vB)(gi i:Nat)(hs:x.size<=1000000)(hi:i < 256)(hc:w.cell? ⟨gi,0,none⟩=some (.int .i64 (i:Int))):vR 128 #[.agg #[.string x,.string y],.pointer (some ⟨gi,0,none⟩)] w (.bool (jeW i (x,y))):=by
 have Q0:=Hd (show (w.alloc (.cells #[.string x,.string y] 187)).cell? ⟨w.heap.size,0,none⟩=some (.string x)from(Blk.new w _).cell vF);have QI:=Hd (jaa hc ((ExtR w).alloc (.cells #[.string x,.string y] 187)));clear hc
 by_cases h0:x.size=0
 ·have:=jbh h0
  subst this;have E:Hid (jeW i (⟨#[]⟩,y)=false):=rfl;go_enter Tryz.func128,Tryz.ntmps128;go_wp2_with fail
  refine jai [0,1,2,3,4,5,6,7,8,9,10,11] Ext ExtR ExtT vY vY vY ?_
  refine vK ?_
  refine qKL ⟨w.heap.size,0,none⟩ _ rfl (fun w2 h2=>jab Tryz.uStr rfl (jaa (by exact Q0.o) h2)) ?_;refine vS ?_;iterate 2 refine vK ?_
  iterate 6 (refine qKS _ rfl ?_;refine vS ?_)
  iterate 2 refine vK ?_
  refine qKE (fun w3 he=>?_);have HE3:=Hd ((((ExtR w).alloc (.cells #[.string ⟨#[]⟩,.string y] 187)).trans (jaj _)).trans he);clear he;go_wp2_with fail
  go_ret
  exact⟨by rw[E.o];rfl,HE3.o⟩
 ·have hpos:0 < x.size:=by omega
  have hne:=ja8 (s:=x) hpos;have c0:(0:Int) < (x.size:Int):=by omega
  have c1:=x[0].toNat_lt;have E:=Hd (jtz (y:=y) i hpos);have he2:((x[0].toNat:Int) ==(i:Int))=(x[0].toNat == i):=jsr _ _;have HE2:=Hd he2;clear he2;go_enter Tryz.func128,Tryz.ntmps128;go_wp2_with fail
  refine jai [0,1,2,3,4,5,6,7,8,9,10,11] Ext ExtR ExtT vY vY vY ?_
  refine vK ?_
  refine qKL ⟨w.heap.size,0,none⟩ _ rfl (fun w2 h2=>jab Tryz.uStr rfl (jaa (by exact Q0.o) h2)) ?_;refine vS ?_;iterate 3 refine vK ?_
  refine qKL ⟨w.heap.size,0,none⟩ _ rfl (fun w2 h2=>jab Tryz.uStr rfl (jaa (by exact Q0.o) h2)) ?_;refine vS ?_;iterate 2 refine vK ?_
  refine qKL ⟨gi,0,none⟩ _ rfl (fun w2 h2=>jab Tryz.uInt rfl (jaa (by exact QI.o) h2)) ?_;refine vS ?_;iterate 3 refine vK ?_
  refine qKE (fun w3 he=>?_);have HE4:=Hd ((((ExtR w).alloc (.cells #[.string x,.string y] 187)).trans (jaj _)).trans he);clear he;rw[HE2.o, <-E.o]
  obtain⟨bb,hbb⟩:=vE (jeW i (x,y))
  rw[<-hbb];have HBB:=Hd hbb;clear hbb;go_wp2_with fail
  go_ret
  exact⟨by rw[<-HBB.o];rfl,HE4.o⟩
def cutL(i:Nat)(l:List Pair):List Pair:=l.filter (jeW i)
theorem jsD(i:Nat)(l:List Pair){k:Nat}{p:Pair}(h:l[k]?=some p):cutL i (l.take (k+1))=cutL i (l.take k)++(if jeW i p then [p]else []):=by
 unfold cutL;rw[List.take_add_one,h,List.filter_append,Option.toList_some,List.filter_cons];simp
def jwr(w:World)(i:Nat)(l:List Pair)(v j:Value)(wr:World):Prop:=∃ k n:Nat,k<=l.length/\n<=k/\j=.int .i64 k/\PRow w wr v n (cutL i (l.take k))
theorem jw5(w:World)(v:Value)(gi i:Nat)(l:List Pair)(hv:RdP w v l)(hn:l.length<=1000000)(hs:∀ p∈l,p.1.size<=1000000)(hi:i < 256)(hc:w.cell? ⟨gi,0,none⟩=some (.int .i64 (i:Int))):vQ 127 #[v,.func (.func 128) #[] #[.pointer (some ⟨gi,0,none⟩)]] w fun e w'=>∃ u n,e=.returned u/\PRow w w' u n (cutL i l):=by
 obtain⟨a,c,hsl⟩:=hv.sl
 have HV:=Hd hv;have HS:=Hd hs;have HC:=Hd hc;subst hsl;clear hv hs hc;go_enter Tryz.func127,Tryz.ntmps127;go_wp2_with fail
 go_loopw [5,10] (fun v j wr=>jwr w i l v j wr) (fun _ j _=>l.length - (intOf j).toNat)
 case atStart=>exact⟨0,0,Nat.zero_le _,Nat.zero_le _,rfl,ORow.nil _ _ (ExtR w)⟩
 case round =>
  obtain⟨k,n,hk,hnk,rfl,hR⟩:=hrel
  obtain⟨a2,c2,rfl⟩:=hR.sl
  have HR:=Hd hR;clear hR
  by_cases hlt:k < l.length
  ·rcases HV.o with⟨_,_,_,h0⟩ |⟨b,o,c',hh,hb,hc,hcell⟩
   ·rw[h0]at hlt;cases hlt
   cases hh
   obtain⟨p,hp⟩:∃ p,l[k]?=some p:=⟨_,List.getElem?_eq_getElem hlt⟩
   obtain⟨q1,q2⟩:=hcell k p hp
   have q1:=jaa q1 HR.o.ext;have q2:=jaa q2 HR.o.ext;have hsp:=HS.o p (List.mem_of_getElem? hp);have hct:=jsD i l hp
   obtain⟨x,y⟩:=p
   simp only at q1 q2 hsp;have b1:(k:Int) < (l.length:Int):=by omega
   have HCT:=Hd hct;clear hcell hp hct;go_wp2_with fail
   refine vC (jxG _ x y gi i hsp hi (jaa HC.o (HR.o.ext.trans ((ExtR wr).alloc _)))) fun w3 hE=>?_;have hX:=((ExtR wr).alloc (.cells #[.string x,.string y] 187)).trans hE;have HR3:=Hd (HR.o.mono hX);have hB3:=(Blk.new wr (.cells #[.string x,.string y] 187)).keeps hE (fun h=>h);have p0:=hB3.cell (i:=0) (v:=.string x) vF;have p1:=hB3.cell (i:=1) (v:=.string y) vF;clear hX hE hB3 q1 q2 HR;cases hpk:jeW i (x,y)with
   | true =>
    rw[hpk,if_pos rfl]at HCT;go_wp2_with (at_builtin;refine jba Tryz.sRows (HR3.o.mono ((ExtR w3).alloc _)) (.tmp 17) (.tmp 19) rfl rfl rfl (jaS (Blk.new w3 _)) (news:=[.string x,.string y]) (by intro u hu;simp at hu;rcases hu with rfl | rfl <;> rfl) rfl rfl ?c1 ?c2 (fun v' w' r1 r2 r3=>?_))
    case c1=>unfold maxLen;omega
    case c2=>omega
    have r1':PRow w w' v' (n+1) (cutL i (l.take (k+1))):=by unfold PRow;rw[HCT.o,jbC];exact r1
    obtain⟨a5,c5,rfl⟩:=r1'.sl
    have HR5:=Hd r1';clear r1 r2 r3 r1' HR3;go_wp2_with fail
    go_roundw
    case rel=>exact⟨k+1,n+1,by omega,by omega,by go_num,HR5.o⟩
    case measure=>simp[intOf];omega
   | false =>
    rw[hpk,if_neg (by simp),List.append_nil]at HCT;go_wp2_with fail
    go_roundw
    case rel=>exact⟨k+1,n,by omega,by omega,by go_num,by rw[HCT.o];exact HR3.o⟩
    case measure=>simp[intOf];omega
  ·have hkl:k=l.length:=by omega
   subst hkl;go_wp2;go_ret;have h:=HR.o;rw[List.take_length]at h
   exact⟨_,_,rfl,h⟩
theorem jcM{P:Program}{t e ty:TypeId}{i:TypeInfo}(ht:P.underlying t=some (.slice e))(hi:P.info? e=some i)(base:Option Addr)(n c:Nat)(hle:n<=c)(c2:Nat)(w:World) :
  (Builtin.append_ #[t,t] ty #[.slice base n c,.slice none 0 c2]).run P w=.ok (.slice base n c) w:=by
 have hs:(sizeOf e).run P w=.ok i.size w:=by simp[sizeOf,typeInfo,hi]
 have hl:∀ w,(Builtin.lenOf (.slice none 0 c2)).run P w=.ok 0 w:=fun w=>rfl;cases base <;> simp[Builtin.append_,Sem.run_bind,Result.andThen,run_underlying ht,hs,hl,Sem.run_pure,Builtin.firstCells,hle,storeCells]
inductive PT where
 | mk (text:vB) (below:List PT)
def PT.text:PT->vB | .mk t _=>t
def PT.kids:PT->List PT | .mk _ ks=>ks
def ptrV(b:Nat):Value:=.pointer (some ⟨b,0,none⟩)
def RdQ(A:Nat->Prop)(W:World)(v:Value)(bs:List Nat):Prop:=
 (v=.slice none 0 0/\bs=[])\/∃ g c,v=.slice (some ⟨g,0,none⟩) bs.length c/\bs≠[]/\A g/\g < W.heap.size/\bs.length<=c/\∀ (j:Nat) b,bs[j]?=some b->W.cell? ⟨g,j,none⟩=some (ptrV b)
mutual
def jbB(A:Nat->Prop):PT->Nat->World->Prop
 | .mk t ks,b,W=>A b/\∃ v bs,Blk W b (.cells #[.string t,v] 159)/\RdQ A W v bs/\jaQ A ks bs W
def jaQ(A:Nat->Prop):List PT->List Nat->World->Prop
 | [],bs,_=>bs=[]
 | k :: ks,bs,W=>∃ b r,bs=b :: r/\jbB A k b W/\jaQ A ks r W
end
theorem RdQ.keeps{A:Nat->Prop}{F:BSet}{W W':World}{v:Value}{bs:List Nat}(h:RdQ A W v bs)(k:jae F W W')(hF:∀ x,A x->¬ F x):RdQ A W' v bs:=by
 rcases h with h |⟨g,c,h1,h2,h3,h4,h5,h6⟩
 ·exact .inl h
 ·exact .inr ⟨g,c,h1,h2,h3,Nat.lt_of_lt_of_le h4 k.size,h5,fun j b hb=>jaw (h6 j b hb) k (hF g h3)⟩
theorem RdQ.mono{A A':Nat->Prop}{W:World}{v:Value}{bs:List Nat}(h:RdQ A W v bs)(hA:∀ x,A x->x < W.heap.size->A' x):RdQ A' W v bs:=by
 rcases h with h |⟨g,c,h1,h2,h3,h4,h5,h6⟩
 ·exact .inl h
 ·exact .inr ⟨g,c,h1,h2,hA g h3 h4,h4,h5,h6⟩
mutual
theorem jbB.keeps{A:Nat->Prop}{F:BSet}{W W':World}(k:jae F W W')(hF:∀ x,A x->¬ F x):∀ (T:PT) (b:Nat),jbB A T b W->jbB A T b W'
 | .mk t ks,b,h=>by
  unfold jbB at *
  obtain⟨h1,v,bs,h2,h3,h4⟩:=h
  exact⟨h1,v,bs,h2.keeps k (hF b h1),h3.keeps k hF,jaQ.keeps k hF ks bs h4⟩
theorem jaQ.keeps{A:Nat->Prop}{F:BSet}{W W':World}(k:jae F W W')(hF:∀ x,A x->¬ F x):∀ (ks:List PT) (bs:List Nat),jaQ A ks bs W->jaQ A ks bs W'
 | [],bs,h=>by unfold jaQ at *;exact h
 | x :: ks,bs,h=>by
  unfold jaQ at *
  obtain⟨b,r,h1,h2,h3⟩:=h
  exact⟨b,r,h1,jbB.keeps k hF x b h2,jaQ.keeps k hF ks r h3⟩
end
mutual
theorem jbB.mono{A A':Nat->Prop}{W:World}(hA:∀ x,A x->x < W.heap.size->A' x):∀ (T:PT) (b:Nat),jbB A T b W->jbB A' T b W
 | .mk t ks,b,h=>by
  unfold jbB at *
  obtain⟨h1,v,bs,h2,h3,h4⟩:=h
  exact⟨hA b h1 h2.lt,v,bs,h2,h3.mono hA,jaQ.mono hA ks bs h4⟩
theorem jaQ.mono{A A':Nat->Prop}{W:World}(hA:∀ x,A x->x < W.heap.size->A' x):∀ (ks:List PT) (bs:List Nat),jaQ A ks bs W->jaQ A' ks bs W
 | [],bs,h=>by unfold jaQ at *;exact h
 | x :: ks,bs,h=>by
  unfold jaQ at *
  obtain⟨b,r,h1,h2,h3⟩:=h
  exact⟨b,r,h1,jbB.mono hA x b h2,jaQ.mono hA ks r h3⟩
end
theorem jaQ.append{A:Nat->Prop}{W:World}:∀ (ks:List PT) (bs:List Nat) (ks':List PT) (bs':List Nat),jaQ A ks bs W->jaQ A ks' bs' W->jaQ A (ks++ks') (bs++bs') W
 | [],bs,ks',bs',h,h'=>by unfold jaQ at h;subst h;exact h'
 | x :: ks,bs,ks',bs',h,h'=>by
  unfold jaQ at h
  obtain⟨b,r,rfl,h2,h3⟩:=h
  show jaQ A (x ::(ks++ks')) (b ::(r++bs')) W;unfold jaQ
  exact⟨b,r++bs',rfl,h2,jaQ.append ks r ks' bs' h3 h'⟩
theorem Tryz.uParts:Tryz.prog.underlying 157=some (.slice 110):=by kernel_rfl
theorem Tryz.infoPtr:(Tryz.prog.info? 110).map (fun i=>(i.zero,i.size,i.bytes))=some (some (.pointer none),1,8):=by kernel_rfl
theorem Tryz.sParts:jeF Tryz.prog 157 110 1 8:=jeF.mk' Tryz.uParts Tryz.infoPtr rfl vI
abbrev QRow(w0 w:World)(v:Value)(bs:List Nat):Prop:=ORow 110 1 w0 w v bs.length (bs.map ptrV)
structure jds(w0 W:World)(b m:Nat)(t:vB)(ks:List PT)(u:Value)(bs:List Nat):Prop where
 blk:Blk W b (.cells #[.string t,u] 159)
 new:w0.heap.size<=b
 row:QRow w0 W u bs
 nil:bs=[]->u=.slice none 0 0
 nb:¬ u.ownBlock=some b
 bm:m≠b
 mb:¬ u.ownBlock=some m
 mn:w0.heap.size<=m
 ml:m < W.heap.size
 ks:jaQ (fun x=>w0.heap.size<=x/\x≠b/\x≠m/\¬ u.ownBlock=some x) ks bs W
theorem jds.ext{w0 W W':World}{b m:Nat}{t:vB}{ks:List PT}{u:Value}{bs:List Nat}(h:jds w0 W b m t ks u bs)(e:Ext W W'):jds w0 W' b m t ks u bs:=
 ⟨h.blk.keeps e (fun h=>h),h.new,h.row.mono e,h.nil,h.nb,h.bm,h.mb,h.mn,Nat.lt_of_lt_of_le h.ml e.size,jaQ.keeps e (fun _ _ h=>h) _ _ h.ks⟩
theorem jds.other{w0 W W':World}{b m:Nat}{t:vB}{ks:List PT}{u:Value}{bs:List Nat}(h:jds w0 W b m t ks u bs)(e:jae (fun x=>x=m) W W'):jds w0 W' b m t ks u bs:=
 ⟨h.blk.keeps e (fun e=>h.bm e.symm),h.new,h.row.keeps e (fun x hx e=>h.mb (by have e:x=m:=e;rw[<-e];exact hx)) (fun x hx e=>by have e:x=m:=e;have:=h.mn;omega),h.nil,h.nb,h.bm,h.mb,h.mn,Nat.lt_of_lt_of_le h.ml e.size,
  jaQ.keeps e (fun x hx e=>hx.2.2.1 e) _ _ h.ks⟩
theorem jds.setText{w0 W:World}{b m:Nat}{t:vB}{ks:List PT}{u:Value}{bs:List Nat}(h:jds w0 W b m t ks u bs)(t':vB):jds w0 (W.setCell ⟨b,0,none⟩ (.string t')) b m t' ks u bs:=
 have K:=jae.oneSet W ⟨b,0,none⟩ (.string t')
 ⟨h.blk.set_same (i:=0) (.string t'),h.new,h.row.keeps K (fun x hx e=>h.nb (by have e:x=b:=e;rw[<-e];exact hx)) (fun x hx e=>by have e:x=b:=e;have:=h.new;omega),h.nil,h.nb,h.bm,h.mb,h.mn,Nat.lt_of_lt_of_le h.ml K.size,jaQ.keeps K (fun x hx e=>hx.2.1 e) _ _ h.ks⟩
theorem jds.part{w0 W:World}{b m:Nat}{t:vB}{ks:List PT}{u:Value}{bs:List Nat}(h:jds w0 W b m t ks u bs):jbB (fun x=>w0.heap.size<=x) (.mk t ks) b W:=by
 unfold jbB
 refine⟨h.new,u,bs,h.blk,?_,jaQ.mono (fun x hx _=>hx.1) _ _ h.ks⟩
 by_cases h0:bs=[]
 ·exact .inl ⟨h.nil h0,h0⟩
 ·obtain⟨_,⟨rfl,h2⟩ |⟨g,cap,cur,rfl,h3,h4,h5,h6,h7⟩⟩:=h.row.own
  ·exact absurd (List.eq_nil_of_length_eq_zero vO) h0
  ·refine .inr ⟨g,cap,rfl,h0,h.row.new g rfl,(Array.getElem?_eq_some_iff.1 h4).1,h5,fun j b hb=>?_⟩
   have hj:=(List.getElem?_eq_some_iff.1 hb).1;rw[h.row.own.cellAt j vO,List.getElem?_map,hb];rfl
def jbP(T:PT):List PT:=if T.text.size < 32 then []else [T]
structure juG(T:PT):Prop where
 size:T.text.size<=100000
 small:T.text.size < 32->T.kids=[]
 nohash:T.text.size < 32->∃ q,cutN T.text=some q/\jfZ T.text q=none
theorem js6(W:World)(b:Nat)(a:Option Addr)(c:Nat):vQ 125 #[ptrV b,.slice a 0 c] W fun e w'=>e=.returned (.string ⟨#[]⟩)/\w'=W:=by
 unfold ptrV;go_enter Tryz.func125,Tryz.ntmps125;go_wp2_with fail
 go_ret
 exact⟨rfl,rfl⟩
theorem jep{P:Program}{a:Act}{w w':World}{v:Value}{d:Option Tmp}{args:Array Operand}{ats:Array TypeId}{ty:TypeId}{pos:String}{af:Array Edge}{g:Option (Nat × Bool)}{vs:Array Value}(h:(Builtin.append_ ats ty vs).run P w=.ok v w')(hv:args.map a.eval=vs) :
  (execOp a.eval ⟨d,.call { callee:=.builtin .append,args:=args,argTypes:=ats },ty,pos,af,g⟩).run P w=.ok (.value v) w':=by
 subst hv;simp[execOp,resolve,invoke,Go.builtin,Act.eval,Sem.run_bind,Result.andThen,Sem.run_pure,h]
theorem jds.add{w0 W w1 w2:World}{b m:Nat}{t:vB}{ks:List PT}{u u':Value}{bs:List Nat}{k:Nat}{T:PT}(h:jds w0 W b m t ks u bs)(hk:jbB (fun x=>w1.heap.size<=x) T k W)(h1:b < w1.heap.size)(h1m:m < w1.heap.size)(h2:∀ x,u.ownBlock=some x->x < w1.heap.size)(h3:w0.heap.size<=w1.heap.size)
  (r1:QRow w0 w2 u' (bs++[k])) (r2:jae (fun x=>u.ownBlock=some x) W w2) (r3:u'.ownBlock=u.ownBlock\/∀ x,u'.ownBlock=some x->W.heap.size<=x) :
  jds w0 (w2.setCell ⟨b,1,none⟩ u') b m t (ks++[T]) u' (bs++[k]):=by
 have K:jae (fun x=>x=b\/u.ownBlock=some x) W (w2.setCell ⟨b,1,none⟩ u'):=(r2.mono (fun x _ hx=>.inr hx)).setCell (.inl (.inl rfl)) _;have hlt:=h.blk.lt;have nb':¬ u'.ownBlock=some b:=fun e=>by
  rcases r3 with r3 | r3
  ·exact h.nb (r3 ▸ e)
  ·have:=r3 b e;omega
 have hav:∀ x,x < W.heap.size->¬ u.ownBlock=some x->¬ u'.ownBlock=some x:=fun x hx hu e=>by
  rcases r3 with r3 | r3
  ·exact hu (r3 ▸ e)
  ·have:=r3 x e;omega
 refine⟨?_,h.new,r1.keeps (jae.oneSet w2 ⟨b,1,none⟩ u') (fun x hx e=>nb' (by have e:x=b:=e;rw[<-e];exact hx)) (fun x hx e=>by have e:x=b:=e;have:=h.new;omega),fun e=>absurd e (by simp),nb',h.bm,hav m h.ml h.mb,h.mn,Nat.lt_of_lt_of_le h.ml K.size,?_⟩
 ·have:=(h.blk.keeps r2 h.nb).set_same (i:=1) u'
  exact this
 ·refine jaQ.append _ _ _ _ ?_ ?_
  ·refine jaQ.keeps K (fun x hx e=>?_) _ _ (jaQ.mono (A':=fun x=>w0.heap.size<=x/\x≠b/\¬ u.ownBlock=some x/\x≠m/\¬ u'.ownBlock=some x) (fun x hx hlt=>⟨hx.1,hx.2.1,hx.2.2.2,hx.2.2.1,hav x hlt hx.2.2.2⟩) _ _ h.ks) |> jaQ.mono (fun x hx _=>⟨hx.1,hx.2.1,hx.2.2.2.1,hx.2.2.2.2⟩) _ _
   rcases e with e | e
   ·exact hx.2.1 e
   ·exact hx.2.2.1 e
  ·unfold jaQ
   refine⟨k,[],rfl,?_,by unfold jaQ;rfl⟩
   have hk1:jbB (fun x=>w0.heap.size<=x/\x≠b/\¬ u.ownBlock=some x/\x≠m/\¬ u'.ownBlock=some x) T k W:=jbB.mono (fun x hx hlt=>⟨by omega,by omega,fun e=>by have:=h2 x e;omega,by omega,hav x hlt (fun e=>by have:=h2 x e;omega)⟩) _ _ hk;refine jbB.mono (fun x hx _=>⟨hx.1,hx.2.1,hx.2.2.2.1,hx.2.2.2.2⟩) _ _ (jbB.keeps K (fun x hx e=>?_) _ _ hk1);rcases e with e | e
   ·exact hx.2.1 e
   ·exact hx.2.2.1 e
theorem jds.same{w0 W:World}{b m:Nat}{t:vB}{ks:List PT}{u:Value}{bs:List Nat}(h:jds w0 W b m t ks u bs):jds w0 (W.setCell ⟨b,1,none⟩ u) b m t ks u bs:=
 have K:=jae.oneSet W ⟨b,1,none⟩ u
 ⟨h.blk.set_same (i:=1) u,h.new,h.row.keeps K (fun x hx e=>h.nb (by have e:x=b:=e;rw[<-e];exact hx)) (fun x hx e=>by have e:x=b:=e;have:=h.new;omega),h.nil,h.nb,h.bm,h.mb,h.mn,Nat.lt_of_lt_of_le h.ml K.size,jaQ.keeps K (fun x hx e=>hx.2.1 e) _ _ h.ks⟩
theorem jbB.open{A:Nat->Prop}{T:PT}{b:Nat}{W:World}(h:jbB A T b W):A b/\∃ v bs,Blk W b (.cells #[.string T.text,v] 159)/\RdQ A W v bs/\jaQ A T.kids bs W:=by
 cases T with
 | mk t ks=>unfold jbB at h;exact h
theorem RdQ.sl{A:Nat->Prop}{W:World}{v:Value}{bs:List Nat}(h:RdQ A W v bs):∃ a c,v=.slice a bs.length c:=by
 rcases h with⟨h1,h2⟩ |⟨g,c,h1,_⟩
 ·exact⟨none,0,by rw[h1,h2];rfl⟩
 ·exact⟨_,c,h1⟩
theorem jup{w0 W:World}(hc:jb2 W){b m:Nat}{t:vB}{ks:List PT}{u:Value}{bs:List Nat}(h:jds w0 W b m t ks u bs)(hbs:bs.length<=100)(v:Value)(l:List Pair)(hv:RdP W v l)(hl:l≠[])(hln:l.length<=1000000)(T:PT)(hT:juG T)
  (hb:vQ 78 #[v] W fun e w'=>∃ k,e=.returned (ptrV k)/\jbB (fun x=>W.heap.size<=x) T k w'/\Ext W w') :
  vQ 125 #[ptrV b,v] W fun e w'=>∃ u' bs',e=.returned (.string (refB T.text))/\jds w0 w' b m t (ks++jbP T) u' bs'/\bs'.length<=bs.length+1/\Ext w0 w'/\jae (fun x=>x=b\/u.ownBlock=some x) W w':=by
 obtain⟨av,cv,rfl⟩:=hv.sl
 have hl0:l.length≠0:=fun e=>hl (List.eq_nil_of_length_eq_zero e);have c0:((l.length:Int) == 0)=false:=by simp;exact hl
 have c1:¬(l.length:Int)=0:=by omega
 have HB:=Hd hb;have H:=Hd h;have HC:=Hd hc;have HT:=Hd hT
 obtain⟨s,hs⟩:=vE T.text
 have hrf:refB T.text=refB s:=by rw[hs]
 rw[hrf];have HS:=Hd hs;clear hb h hc hT hv hl hl0 hs hrf;unfold ptrV;go_enter Tryz.func125,Tryz.ntmps125;go_wp2_with fail
 refine HB.o.mono ?_;rintro e w1 ⟨k,rfl,hk,hE⟩;have HK:=Hd hk
 obtain⟨hkA,vk,bk,hkB,hkQ,hkP⟩:=hk.open
 have q0:w1.cell? ⟨k,0,none⟩=some (.string s):=by rw[HS.o];exact hkB.cell vF
 have H1:=Hd (H.o.ext hE);have HE:=Hd hE;have HC1:=Hd (HC.o.ext hE);have HKB:=Hd hkB;have HKQ:=Hd hkQ;have HKP:=Hd hkP;clear hE hk hkB hkQ hkP;unfold ptrV;go_wp2_with fail
 refine vC (jvO w1 s HC1.o) fun w2 hE=>?_;have HE2:=Hd hE;have H2:=Hd (H1.o.ext hE)
 by_cases hsm:s.size < 32
 ·have hTs:T.text.size < 32:=by rw[<-HS.o];exact hsm
  obtain⟨q,hq1,hq2⟩:=HT.o.nohash hTs
  rw[<-HS.o]at hq1 hq2;have hr:refB s=s:=by unfold refB;rw[if_pos hsm]
  rw[hr];have hnil:=HT.o.small hTs;have hkp:=HKP.o;rw[hnil]at hkp;unfold jaQ at hkp;have hkq:=HKQ.o;rw[hkp]at hkq;have hvk:vk=.slice none 0 0:=by
   rcases hkq with⟨h1,_⟩ |⟨g,c,_,h2,_⟩
   ·exact h1
   ·exact absurd rfl h2
  have hheld:ks++jbP T=ks:=by unfold jbP;rw[if_pos hTs,List.append_nil]
  have HHELD:=Hd hheld;have HREF:=Hd hr;have HQ1:=Hd hq1;have HQ2:=Hd hq2;have hkb2:=HKB.o.keeps hE (fun h=>h);rw[hvk]at hkb2;have QK:=Hd (hkb2.cell (i:=1) (v:=.slice none 0 0) vF);clear hE hq1 hq2 hr hnil hkp hkq hvk hkb2 hheld;go_wp2_with fail
  refine vC (jd0 w2 s q vO HQ1.o) fun w3 hE=>?_;rw[HQ2.o];have H3:=Hd (H2.o.ext hE);have QK3:=Hd (jaa QK.o hE);have HX3:=Hd ((HE.o.trans HE2.o).trans hE);clear hE
  obtain⟨au,cu,hu⟩:=H3.o.row.sl
  subst hu;unfold optV;simp only;go_wp2_with fail
  have hul:bs.length<=cu:=by
   obtain⟨_,⟨hx,h2⟩ |⟨g,cap,cur,hx,h3,h4,h5,h6,h7⟩⟩:=H3.o.row.own
   ·have:=Value.slice.inj hx;omega
   ·have:=Value.slice.inj hx;omega
  refine jau [0,1,2,3,4,5,6,7,8,9,10,11,12] [12] Ext ExtR ExtT vY vY vY ?_;iterate 2 refine vP ?_
  refine qA _ (.pointer (some ⟨b,0,none⟩)) rfl (fun w1=>by kernel_rfl) ?_;refine vS ?_
  refine vP ?_
  refine qL ⟨b,1,none⟩ _ rfl (fun w1 h1=>jab Tryz.uParts rfl (jaa (by exact H3.o.blk.cell (i:=1) (v:=.slice au bs.length cu) vF) h1)) ?_;refine vS ?_
  refine vP ?_
  refine qA _ (.pointer (some ⟨k,0,none⟩)) rfl (fun w1=>by kernel_rfl) ?_;refine vS ?_
  refine vP ?_
  refine qL ⟨k,1,none⟩ _ rfl (fun w1 h1=>jab Tryz.uParts rfl (jaa (by exact QK3.o) h1)) ?_;refine vS ?_
  obtain⟨i0,z0,hi0,_⟩:=Tryz.sParts.hi
  refine qA _ (.slice au bs.length cu) rfl (fun w1=>jep (jcM Tryz.uParts hi0 au bs.length cu hul 0 w1) vY) ?_;refine vS ?_;refine qA _ (.pointer (some ⟨b,0,none⟩)) rfl (fun w1=>by kernel_rfl) ?_;refine vS ?_
  refine vP ?_
  refine qH _ rfl (fun w4 he K hK=>?_);have h4:=H3.o.ext ((jaj w3).trans he);have q1:w4.cell? ⟨b,1,none⟩=some (.slice au bs.length cu):=h4.blk.cell (i:=1) vF;have f1:w4.frozen? ⟨b,1,none⟩=false:=h4.blk.frozen;have H4:=Hd h4;have HX4:=Hd (HX3.o.trans ((jaj w3).trans he));clear he h4;go_simp;refine hK _ _ ?_;clear hK K q1 f1;have H5:=Hd H4.o.same;refine qE (fun w5 he=>?_);have H6:=Hd (H5.o.ext he);have HX6:=Hd ((((HX4.o.mono (G:=fun x=>x=b\/(Value.slice au bs.length cu).ownBlock=some x) (fun _ _ h=>h.elim)).setCell (p:=⟨b,1,none⟩) (.inl (.inl rfl)) (.slice au bs.length cu)).trans (he.mono (fun _ _ h=>h.elim))));clear he H5 H4;go_wp2_with fail
  go_ret
  exact⟨_,bs,by rw[HREF.o];rfl,by rw[HHELD.o];exact H6.o,by omega,H6.o.row.ext,HX6.o⟩
 ·have hTs:¬ T.text.size < 32:=by rw[<-HS.o];exact hsm
  obtain⟨r,hr⟩:=vE (refB s)
  have hr2:r=jao (shaB s):=by rw[hr];unfold refB;rw[if_neg hsm]
  obtain⟨q,hq1,hq2⟩:=jf1 (shaB s) (jbF s)
  rw[<-hr2]at hq1 hq2;have hrs:r.size<=1000000000:=by have:=jaK (shaB s);have:=jbF s;rw[hr2];omega
  have hheld:ks++jbP T=ks++[T]:=by unfold jbP;rw[if_neg hTs]
  rw[<-hr];have HHELD:=Hd hheld;have HREF:=Hd hr;have HQ1:=Hd hq1;have HQ2:=Hd hq2;have HKW:=Hd (jbB.keeps hE (fun _ _ h=>h) _ _ HK.o);clear hE hq1 hq2 hr hr2 hheld hTs;go_wp2_with fail
  refine vC (jd0 w2 r q hrs HQ1.o) fun w3 hE=>?_;rw[HQ2.o];have h3:=H2.o.ext hE;have HKW3:=Hd (jbB.keeps hE (fun _ _ h=>h) _ _ HKW.o);have hX3:=(HE.o.trans HE2.o).trans hE
  obtain⟨au,cu,hu⟩:=h3.row.sl
  subst hu;have q1:w3.cell? ⟨b,1,none⟩=some (.slice au bs.length cu):=h3.blk.cell (i:=1) vF;have H3:=Hd h3;have hb1:=H.o.blk.lt;have hb2:=H.o.row.lt;have HB2:=Hd hb2;have hb3:=H.o.row.ext.size;have HX3:=Hd hX3;clear hE h3 hX3 hb2;unfold optV;simp only;go_wp2_with (at_builtin;refine jba Tryz.sParts (H3.o.row.mono ((ExtR w3).alloc _)) (.tmp 29) (.tmp 31) rfl rfl rfl (jaS (Blk.new w3 _)) (news:=[ptrV k]) (by intro u hu;simp at hu;rw[hu];rfl) rfl rfl (by unfold maxLen;omega) vO (fun v' w4 r1 r2 r3=>?_);obtain⟨a5,c5,hv5⟩:=r1.sl;subst hv5;have hB4:=(H3.o.blk.alloc _).keeps r2 H3.o.nb;have qb:w4.cell? ⟨b,1,none⟩=some (.slice au bs.length cu):=hB4.cell (i:=1) vF;have fb:w4.frozen? ⟨b,1,none⟩=false:=hB4.frozen)
  have e1:QRow w0 w4 (.slice a5 (bs.length+1) c5) (bs++[k]):=by
   unfold QRow;rw[List.length_append,List.map_append];exact r1
  have h5:=jds.add (w1:=W) (H3.o.ext ((ExtR w3).alloc _)) (jbB.keeps ((ExtR w3).alloc _) (fun _ _ h=>h) _ _ HKW3.o) hb1 H.o.ml HB2.o hb3 e1 r2 r3;have hK5:jae (fun x=>x=b\/(Value.slice au bs.length cu).ownBlock=some x) W (w4.setCell ⟨b,1,none⟩ (.slice a5 (bs.length+1) c5)):=
   ((((HX3.o.alloc _).mono (G:=fun x=>x=b\/(Value.slice au bs.length cu).ownBlock=some x) (fun _ _ h=>h.elim)).trans (r2.mono (fun _ _ h=>.inr h)))).setCell (.inl (.inl rfl)) _
  go_ret
  exact⟨_,bs++[k],by rw[<-HREF.o];rfl,by rw[HHELD.o];exact h5,by simp,h5.row.ext,hK5⟩
abbrev Lt(a b:List UInt8):Prop:=Op.bytesLess a b=true
theorem jbp{a b:UInt8}{x y:List UInt8}:Lt (a :: x) (b :: y)↔a < b\/(a=b/\Lt x y):=by
 unfold Lt;rw[Op.bytesLess];simp
theorem not_lt_nil(a:List UInt8):¬ Lt a []:=by
 unfold Lt;cases a <;> simp[Op.bytesLess]
theorem jny{b:UInt8}{y:List UInt8}:Lt [] (b :: y):=rfl
theorem lt_irrefl:∀ a:List UInt8,¬ Lt a a
 | [],h=>not_lt_nil _ h
 | a :: x,h=>by
  rcases jbp.1 h with h | h
  ·exact UInt8.lt_irrefl a h
  ·exact lt_irrefl x h.2
theorem jbb:∀ (a b:List UInt8),a.take (jaV a b)=b.take (jaV a b)/\jaV a b<=a.length/\jaV a b<=b.length
 | [],b=>by simp[jaV]
 | x :: r,[]=>by simp[jaV]
 | x :: r,y :: t=>by
  unfold jaV;split
  ·rename_i h
   obtain⟨h1,h2,h3⟩:=jbb r t
   subst h;simp only[List.take_succ_cons,List.length_cons,h1]
   exact⟨trivial,by omega,by omega⟩
  ·simp
theorem jhr(a b:List UInt8):jaV (a.drop (jaV a b)) (b.drop (jaV a b))=0:=by
 obtain⟨h1,h2,h3⟩:=jbb a b
 have:=jdu a b (jaV a b) h1 h2 h3
 omega
theorem jpC:∀ (k:Nat) (a m b:List UInt8),Lt a m->Lt m b->a.take k=b.take k->k<=a.length->k<=b.length->m.take k=a.take k/\k<=m.length
 | 0,a,m,b,_,_,_,_,_=>by simp
 | k+1,[],m,b,_,_,_,h,_=>by simp at h
 | k+1,x :: a,m,[],_,_,_,_,h=>by simp at h
 | k+1,x :: a,[],y :: b,h,_,_,_,_=>absurd h (not_lt_nil _)
 | k+1,x :: a,z :: m,y :: b,h1,h2,h3,h4,h5=>by
  simp only[List.take_succ_cons,List.cons.injEq]at h3
  obtain⟨rfl,h3⟩:=h3
  have hz:x=z:=by
   rcases jbp.1 h1 with h | h
   ·rcases jbp.1 h2 with h' | h'
    ·exact absurd (UInt8.lt_trans h h') (UInt8.lt_irrefl x)
    ·rw[h'.1]at h;exact absurd h (UInt8.lt_irrefl x)
   ·exact h.1
  subst hz;have e1:Lt a m:=by
   rcases jbp.1 h1 with h | h
   ·exact absurd h (UInt8.lt_irrefl x)
   ·exact h.2
  have e2:Lt m b:=by
   rcases jbp.1 h2 with h | h
   ·exact absurd h (UInt8.lt_irrefl x)
   ·exact h.2
  obtain⟨i1,i2⟩:=jpC k a m b e1 e2 h3 (by simpa using h4) (by simpa using h5)
  simp only[List.take_succ_cons,i1,List.length_cons]
  exact⟨trivial,by omega⟩
theorem jqD:∀ (k:Nat) (a b:List UInt8),Lt a b->a.take k=b.take k->k<=a.length->k<=b.length->Lt (a.drop k) (b.drop k)
 | 0,a,b,h,_,_,_=>h
 | k+1,[],b,_,_,h,_=>by simp at h
 | k+1,x :: a,[],h,_,_,_=>absurd h (not_lt_nil _)
 | k+1,x :: a,y :: b,h,h1,h2,h3=>by
  simp only[List.take_succ_cons,List.cons.injEq]at h1;rcases jbp.1 h with h | h
  ·rw[h1.1]at h;exact absurd h (UInt8.lt_irrefl y)
  ·exact jqD k a b h.2 h1.2 (by simpa using h2) (by simpa using h3)
abbrev Pair.l(p:Pair):List UInt8:=p.1.data.toList
structure jaA(f:Nat)(l:List Pair):Prop where
 size:∀ p∈l,p.1.size<=f/\p.1.size<=12/\jat p.1=true/\0 < p.2.size/\p.2.size<=80
 rise:l.Pairwise fun p q=>Lt p.l q.l
theorem jcR(b:vB)(k n:Nat)(h:b.size<=n):(b.extract k n).data.toList=b.data.toList.drop k:=by
 rw[ByteArray.data_extract,Array.toList_extract,List.extract_eq_take_drop,List.take_of_length_le];rw[List.length_drop];have:b.data.toList.length=b.size:=rfl;omega
theorem jaR(b:vB)(k:Nat):(b.extract k b.size).size=b.size - k:=by rw[ByteArray.size_extract];omega
theorem jbg{b:vB}(h:jat b=true)(k n:Nat):jat (b.extract k n)=true:=by
 unfold jat at *;rw[List.all_eq_true]at *;intro x hx;refine h x ?_;rw[ByteArray.data_extract,Array.toList_extract,List.extract_eq_take_drop]at hx;exact List.mem_of_mem_drop (List.mem_of_mem_take hx)
def pd:Pair:=(⟨#[]⟩,⟨#[]⟩)
def comK(l:List Pair):Nat:=jak (l.getD 0 pd).1 (l.getD (l.length - 1) pd).1
theorem jb0{l:List Pair}{R:Pair->Pair->Prop}(h:l.Pairwise R){i j:Nat}{p q:Pair}(hij:i < j)(hi:l[i]?=some p)(hj:l[j]?=some q):R p q:=by
 obtain⟨h1,rfl⟩:=List.getElem?_eq_some_iff.1 hi
 obtain⟨h2,rfl⟩:=List.getElem?_eq_some_iff.1 hj
 exact List.pairwise_iff_getElem.1 h i j h1 h2 hij
theorem jbu{f:Nat}{l:List Pair}(h:jaA f l)(h2:2<=l.length):∀ p∈l,p.l.take (comK l)=(l.getD 0 pd).l.take (comK l)/\comK l<=p.1.size:=by
 intro p hp
 obtain⟨i,hi⟩:=List.getElem?_of_mem hp
 have hil:=(List.getElem?_eq_some_iff.1 hi).1
 obtain⟨a,ha⟩:∃ a,l[0]?=some a:=⟨_,List.getElem?_eq_getElem vO⟩
 obtain⟨b,hb⟩:∃ b,l[l.length - 1]?=some b:=⟨_,List.getElem?_eq_getElem vO⟩
 have ga:l.getD 0 pd=a:=by rw[List.getD_eq_getElem?_getD,ha];rfl
 have gb:l.getD (l.length - 1) pd=b:=by rw[List.getD_eq_getElem?_getD,hb];rfl
 have hk:comK l=jaV a.l b.l:=by unfold comK jak;rw[ga,gb]
 obtain⟨k1,k2,k3⟩:=jbb a.l b.l
 rw[hk,ga]
 by_cases h0:i=0
 ·subst h0;rw[ha]at hi;obtain rfl:=Option.some.inj hi;exact⟨rfl,k2⟩
 ·by_cases hn:i=l.length - 1
  ·subst hn;rw[hb]at hi;obtain rfl:=Option.some.inj hi;exact⟨k1.symm,k3⟩
  ·exact jpC _ a.l p.l b.l (jb0 h.rise vO ha hi) (jb0 h.rise vO hi hb) k1 k2 k3
theorem jcv{f:Nat}{l:List Pair}(k:Nat)(h:jaA f l)(hk:∀ p∈l,∀ q∈l,p.l.take k=q.l.take k)(hs:∀ p∈l,k<=p.1.size):jaA (f - k) (jal k l):=by
 refine⟨fun p hp=>?_,?_⟩
 ·obtain⟨q,hq,rfl⟩:=List.mem_map.1 hp
  obtain⟨h1,h2,h3,h4,h5⟩:=h.size q hq
  refine⟨?_,?_,jbg h3 _ _,h4,h5⟩
  ·show (q.1.extract k q.1.size).size<=_;rw[jaR];omega
  ·show (q.1.extract k q.1.size).size<=_;rw[jaR];omega
 ·unfold jal
  rw[List.pairwise_map];refine List.Pairwise.imp_of_mem (fun {p q} hp hq hlt=>?_) h.rise;show Lt (p.1.extract k p.1.size).data.toList (q.1.extract k q.1.size).data.toList;rw[jcR _ _ _ (Nat.le_refl _),jcR _ _ _ (Nat.le_refl _)];exact jqD k _ _ hlt (hk p hp q hq) (hs p hp) (hs q hq)
theorem jbR{i:Nat}{l:List Pair}{p:Pair}(h:p∈cutL i l):p∈l/\∃ a r,p.l=a :: r/\a.toNat=i:=by
 obtain⟨h1,h2⟩:=List.mem_filter.1 h
 refine⟨h1,?_⟩
 unfold jeW at h2;cases hp:p.1.data.toList with
 | nil=>rw[hp]at h2;cases h2
 | cons a r=>rw[hp]at h2;exact⟨a,r,hp,by simpa using h2⟩
theorem jpY{f:Nat}{l:List Pair}(i:Nat)(h:jaA f l):jaA f (cutL i l):=
 ⟨fun p hp=>h.size p (jbR hp).1,List.Pairwise.filter _ h.rise⟩
theorem jeb{f:Nat}{l:List Pair}(i:Nat)(h:jaA f l):jaA (f - 1) (jal 1 (cutL i l)):=by
 refine jcv 1 (jpY i h) (fun p hp q hq=>?_) (fun p hp=>?_)
 ·obtain⟨_,a,r,e1,e2⟩:=jbR hp
  obtain⟨_,b,t,e3,e4⟩:=jbR hq
  rw[e1,e3,UInt8.toNat_inj.1 (e2.trans e4.symm)];rfl
 ·obtain⟨_,a,r,e1,e2⟩:=jbR hp
  show 1<=p.1.data.toList.length;rw[show p.1.data.toList=a :: r from e1];simp
def jav(B:List Pair->PT)(l:List Pair):jad:=
 if l.length=0 then jar
 else if l.length=1 then ⟨1,(l.getD 0 pd).1,(l.getD 0 pd).2,jam 16⟩
 else if 0 < comK l then ⟨2,(l.getD 0 pd).1.extract 0 (comK l),⟨#[]⟩,refB (B (jal (comK l) l)).text :: jam 15⟩
 else ⟨3,⟨#[]⟩,if (l.getD 0 pd).1.size=0 then (l.getD 0 pd).2 else ⟨#[]⟩,(List.range 16).map fun i=>if (cutL i l).length=0 then ⟨#[]⟩else refB (B (jal 1 (cutL i l))).text⟩
def jaB(B:List Pair->PT)(l:List Pair):List PT:=
 if l.length<=1 then []
 else if 0 < comK l then jbP (B (jal (comK l) l))
 else (List.range 16).flatMap fun i=>if (cutL i l).length=0 then []else jbP (B (jal 1 (cutL i l)))
def jac:Nat->List Pair->PT
 | 0,_=>.mk ⟨#[]⟩ []
 | f+1,l=>.mk (jaN (jav (jac f) l)) (jaB (jac f) l)
theorem jaA.mono{f g:Nat}{l:List Pair}(h:jaA f l)(hg:f<=g):jaA g l:=⟨fun p hp=>by obtain⟨h1,h2⟩:=h.size p hp;exact⟨by omega,h2⟩,h.rise⟩
theorem jh9:∀ (l:List vB) (i j:Nat) (r:vB),l[j]?=some r->r.size≠0->(i+j,r)∈jas i l
 | [],i,j,r,h,_=>by simp at h
 | x :: l,i,0,r,h,h0=>by
  simp at h;subst h;unfold jas;rw[if_neg h0];exact List.mem_cons_self ..
 | x :: l,i,j+1,r,h,h0=>by
  have:=jh9 l (i+1) j r (by simpa using h) h0
  rw[show i+(j+1)=i+1+j by omega];unfold jas;split
  ·exact this
  ·exact List.mem_cons_of_mem _ this
theorem jx9{α:Type}{a b:α}{l:List α}(ha:a∈l)(hb:b∈l)(h:a≠b):2<=l.length:=by
 match l,ha,hb with
 | [x],ha,hb =>
  rw[List.mem_singleton]at ha hb;exact absurd (ha.trans hb.symm) h
 | x :: y :: r,_,_=>simp
theorem jxE{α:Type}{a:α}{l:List α}(ha:a∈l):1<=l.length:=by cases l <;> simp at ha ⊢
structure jeL(f:Nat)(T:PT)(n:jad):Prop where
 text:T.text=jaN n
 good:jbx (InlD f) n
 kind:n.kind≠0
 small:T.text.size < 32->T.kids=[]
theorem jeL.may{f:Nat}{T:PT}{n:jad}(h:jeL f T n):MayP (InlD (f+1)) (refB T.text)/\(T.text.size < 32->InlD (f+1) (refB T.text) n):=by
 by_cases hs:T.text.size < 32
 ·have e:refB T.text=jaN n:=by unfold refB;rw[if_pos hs,h.text]
  have hI:InlD (f+1) (refB T.text) n:=by rw[e];exact⟨h.good,rfl,by rw[<-h.text];exact hs,h.kind⟩
  exact⟨.inr ⟨n,hI⟩,fun _=>hI⟩
 ·exact⟨.inl ⟨shaB T.text,jbF _,by unfold refB;rw[if_neg hs]⟩,fun h=>absurd h hs⟩
theorem MayP.pos{f:Nat}{r:vB}(h:MayP (InlD f) r):r.size≠0:=by
 rcases h with h |⟨m,h⟩
 ·rw[h.size];omega
 ·exact (inlP f).pos r m h
theorem jeL.kid{f:Nat}{T:PT}{n:jad}(h:jeL f T n):juG T:=by
 have h1:=h.good.one (inlP f)
 refine⟨by have:=jiX n h1;rw[h.text];omega,h.small,fun hs=>?_⟩
 obtain⟨xs,h2,h3⟩:=jiW n h1 h.kind
 rw[h.text,h2];exact jkW xs h3
theorem jxS{T:PT}(h:¬ T.text.size < 32):(refB T.text).size=33:=by
 have:jeJ (refB T.text):=⟨shaB T.text,jbF _,by unfold refB;rw[if_neg h]⟩
 exact this.size
theorem jg6:∀ (l:List vB) (x:vB),x∈l->x.size<=(catB l).size
 | y :: l,x,h=>by
  rw[ja1];rcases List.mem_cons.1 h with rfl | h
  ·omega
  ·have:=jg6 l x h;omega
theorem jjG(xs:List vB):(catB xs).size<=(ja4 xs).size:=by unfold ja4;rw[ByteArray.size_append];omega
theorem jiO{k:Nat}{l:List Pair}{i:Nat}(h:i < l.length):(jal k l).getD i pd=((l.getD i pd).1.extract k (l.getD i pd).1.size,(l.getD i pd).2):=by
 unfold jal;rw[List.getD_eq_getElem?_getD,List.getElem?_map,List.getD_eq_getElem?_getD,List.getElem?_eq_getElem h];rfl
theorem jaH(k:Nat)(l:List Pair):(jal k l).length=l.length:=by simp[jal]
theorem jfU{l:List Pair}(h:0 < l.length):comK (jal (comK l) l)=0:=by
 have e:comK (jal (comK l) l)=jaV (((l.getD 0 pd).l).drop (comK l)) (((l.getD (l.length - 1) pd).l).drop (comK l)):=by
  conv=>lhs;unfold comK
  rw[jaH,jiO h,jiO vO];unfold jak;simp only;rw[jcR _ _ _ (Nat.le_refl _),jcR _ _ _ (Nat.le_refl _)];rfl
 rw[e];exact jhr _ _
theorem jcL{p:Pair}(h:jat p.1=true){a:UInt8}{r:List UInt8}(hp:p.l=a :: r):a.toNat < 16:=by
 have:a<=15:=of_decide_eq_true (List.all_eq_true.1 h a (by rw[show p.1.data.toList=a :: r from hp];exact List.mem_cons_self ..))
 have:=UInt8.le_iff_toNat_le.1 this
 have h15:(15:UInt8).toNat=15:=rfl;omega
theorem good:∀ (f:Nat) (l:List Pair),jaA f l->jbx (InlD f) (jav (jac f) l)/\(l≠[]->jeL f (jac (f+1) l) (jav (jac f) l))/\(2<=l.length->comK l=0->(jav (jac f) l).kind=3):=by
 intro f;induction f with
 | zero =>
  intro l h;have hl:l.length<=1:=by
   rcases Nat.lt_or_ge l.length 2 with h2 | h2
   ·omega
   ·obtain⟨a,ha⟩:∃ a,l[0]?=some a:=⟨_,List.getElem?_eq_getElem vO⟩
    obtain⟨b,hb⟩:∃ b,l[1]?=some b:=⟨_,List.getElem?_eq_getElem vO⟩
    have hlt:=jb0 h.rise vO ha hb
    have:=(h.size b (List.mem_of_getElem? hb)).1
    rw[show b.l=[]from List.eq_nil_of_length_eq_zero (by show b.1.size=0;omega)]at hlt;exact absurd hlt (not_lt_nil _)
  by_cases h0:l.length=0
  ·have e:jav (jac 0) l=jar:=by unfold jav;rw[if_pos h0]
   rw[e]
   exact⟨.none,fun hn=>absurd (List.eq_nil_of_length_eq_zero h0) hn,fun h2=>by omega⟩
  ·have h1:l.length=1:=by omega
   obtain⟨p,hp⟩:=vE (l.getD 0 pd)
   have e:jav (jac 0) l=⟨1,p.1,p.2,jam 16⟩:=by unfold jav;rw[if_neg h0,if_pos h1,hp]
   have hpm:p∈l:=by rw[hp,List.getD_eq_getElem?_getD,List.getElem?_eq_getElem vO];exact List.getElem_mem _
   obtain⟨s1,s2,s3,s4,s5⟩:=h.size p hpm
   have hg:jbx (InlD 0) ⟨1,p.1,p.2,jam 16⟩:=.leaf p.1 p.2 (by simp[jad.pathOk,s2,s3]) s4 s5;rw[e]
   exact⟨hg,fun _=>⟨by unfold jac;rw[e];rfl,hg,by simp,fun _=>by unfold jac jaB;rw[if_pos vO];rfl⟩,fun h2=>by omega⟩
 | succ f ih =>
  intro l h
  by_cases h0:l.length=0
  ·have e:jav (jac (f+1)) l=jar:=by unfold jav;rw[if_pos h0]
   rw[e]
   exact⟨.none,fun hn=>absurd (List.eq_nil_of_length_eq_zero h0) hn,fun h2=>by omega⟩
  by_cases h1:l.length=1
  ·obtain⟨p,hp⟩:=vE (l.getD 0 pd)
   have e:jav (jac (f+1)) l=⟨1,p.1,p.2,jam 16⟩:=by unfold jav;rw[if_neg h0,if_pos h1,hp]
   have hpm:p∈l:=by rw[hp,List.getD_eq_getElem?_getD,List.getElem?_eq_getElem vO];exact List.getElem_mem _
   obtain⟨s1,s2,s3,s4,s5⟩:=h.size p hpm
   have hg:jbx (InlD (f+1)) ⟨1,p.1,p.2,jam 16⟩:=.leaf p.1 p.2 (by simp[jad.pathOk,s2,s3]) s4 s5;rw[e]
   exact⟨hg,fun _=>⟨by unfold jac;rw[e];rfl,hg,by simp,fun _=>by unfold jac jaB;rw[if_pos vO];rfl⟩,fun h2=>by omega⟩
  have h2:2<=l.length:=by omega
  have hcom:=jbu h h2
  obtain⟨a,ha⟩:∃ a,l[0]?=some a:=⟨_,List.getElem?_eq_getElem vO⟩
  obtain⟨b,hb⟩:∃ b,l[l.length - 1]?=some b:=⟨_,List.getElem?_eq_getElem vO⟩
  have ga:l.getD 0 pd=a:=by rw[List.getD_eq_getElem?_getD,ha];rfl
  have gb:l.getD (l.length - 1) pd=b:=by rw[List.getD_eq_getElem?_getD,hb];rfl
  have hlt:=jb0 h.rise vO ha hb
  obtain⟨sa1,sa2,sa3,sa4,sa5⟩:=h.size a (List.mem_of_getElem? ha)
  obtain⟨sb1,sb2,sb3,sb4,sb5⟩:=h.size b (List.mem_of_getElem? hb)
  by_cases hk:0 < comK l
  ·have hok:jaA f (jal (comK l) l):=(jcv (comK l) h (fun p hp q hq=>(hcom p hp).1.trans (hcom q hq).1.symm) (fun p hp=>(hcom p hp).2)).mono vO
   obtain⟨_,i2,i3⟩:=ih _ hok
   have hst:=i2 (fun e=>by have:=jaH (comK l) l;rw[e]at this;simp at this;omega);have hk3:=i3 (by rw[jaH];omega) (jfU vO);have e:jav (jac (f+1)) l=⟨2,a.1.extract 0 (comK l),⟨#[]⟩,refB (jac (f+1) (jal (comK l) l)).text :: jam 15⟩:=by unfold jav;rw[if_neg h0,if_neg h1,if_pos hk,ga]
   have hka:=(hcom a (List.mem_of_getElem? ha)).2;have hsz:(a.1.extract 0 (comK l)).size=comK l:=by rw[ByteArray.size_extract];omega
   have hg:jbx (InlD (f+1)) (jav (jac (f+1)) l):=by
    rw[e];refine .ext _ _ ?_ hst.may.1.pos ?_
    ·simp[jad.pathOk,hsz,jbg sa3];omega
    ·by_cases hs:(jac (f+1) (jal (comK l) l)).text.size < 32
     ·exact .inr ⟨_,hst.may.2 hs,hk3⟩
     ·exact .inl ⟨_,jbF _,by unfold refB;rw[if_neg hs]⟩
   refine⟨hg,fun _=>⟨rfl,hg,by rw[e];simp,fun hsm=>?_⟩,fun _ hk0=>by omega⟩
   have hbel:(jac (f+1+1) l).kids=jbP (jac (f+1) (jal (comK l) l)):=by
    show jaB (jac (f+1)) l=_;unfold jaB;rw[if_neg vO,if_pos hk]
   rw[hbel];unfold jbP;rw[if_pos];rcases Nat.lt_or_ge (jac (f+1) (jal (comK l) l)).text.size 32 with hx | hx
   ·exact hx
   ·have h33:=jxS (T:=jac (f+1) (jal (comK l) l)) vO
    have ht:(jac (f+1+1) l).text=extB (jav (jac (f+1)) l):=by show jaN (jav (jac (f+1)) l)=_;rw[e];rfl
    rw[ht,e]at hsm
    have:=jjG [jao (putB (a.1.extract 0 (comK l)) false),refB (jac (f+1) (jal (comK l) l)).text]
    have:=jg6 [jao (putB (a.1.extract 0 (comK l)) false),refB (jac (f+1) (jal (comK l) l)).text] _ (List.mem_cons_of_mem _ (List.mem_cons_self ..))
    have hsm':(ja4 [jao (putB (a.1.extract 0 (comK l)) false),refB (jac (f+1) (jal (comK l) l)).text]).size < 32:=hsm;omega
  ·obtain⟨rs,hrs⟩:=vE ((List.range 16).map fun i=>if (cutL i l).length=0 then (⟨#[]⟩:vB)else refB (jac (f+1) (jal 1 (cutL i l))).text)
   have e:jav (jac (f+1)) l=⟨3,⟨#[]⟩,if a.1.size=0 then a.2 else ⟨#[]⟩,rs⟩:=by unfold jav;rw[if_neg h0,if_neg h1,if_neg hk,ga,hrs]
   have hkid:∀ i,(cutL i l).length≠0->jeL f (jac (f+1) (jal 1 (cutL i l))) (jav (jac f) (jal 1 (cutL i l))):=fun i hi =>
    (ih _ (jeb i h)).2.1 (fun e=>by have:=jaH 1 (cutL i l);rw[e]at this;simp at this;omega)
   have hrl:rs.length=16:=by rw[hrs];simp
   have hri:∀ i,i < 16->rs[i]?=some (if (cutL i l).length=0 then (⟨#[]⟩:vB)else refB (jac (f+1) (jal 1 (cutL i l))).text):=fun i hi=>by
    rw[hrs,List.getElem?_map,List.getElem?_range hi];rfl
   have hmay:∀ r∈rs,r.size≠0->MayP (InlD (f+1)) r:=by
    intro r hr hr0;rw[hrs]at hr
    obtain⟨i,_,rfl⟩:=List.mem_map.1 hr
    by_cases hi:(cutL i l).length=0
    ·rw[if_pos hi]at hr0;exact absurd rfl hr0
    ·rw[if_neg hi];exact (hkid i hi).may.1
   have hin:∀ (p:Pair) (x:UInt8) (r:List UInt8),p∈l->p.l=x :: r->∃ y,(x.toNat,y)∈jas 0 rs:=by
    intro p x r hp hpx;have hx:=jcL (h.size p hp).2.2.1 hpx;have hc:(cutL x.toNat l).length≠0:=by
     intro h0;have hm:p∈cutL x.toNat l:=List.mem_filter.2 ⟨hp,by unfold jeW;rw[show p.1.data.toList=x :: r from hpx];simp⟩;rw[List.eq_nil_of_length_eq_zero h0]at hm;cases hm
    have h5:=hri x.toNat hx;rw[if_neg hc]at h5
    have:=jh9 rs 0 x.toNat _ h5 (hkid _ hc).may.1.pos
    rw[Nat.zero_add]at this
    exact⟨_,this⟩
   have hkc:comK l=jaV a.l b.l:=by unfold comK jak;rw[ga,gb]
   have hk0:jaV a.l b.l=0:=by omega
   have hcount:2<=min (if a.1.size=0 then a.2 else (⟨#[]⟩:vB)).size 1+(jas 0 rs).length:=by
    cases hal:a.l with
    | nil =>
     have ha0:a.1.size=0:=by show a.1.data.toList.length=0;rw[show a.1.data.toList=[]from hal];rfl
     rw[if_pos ha0];cases hbl:b.l with
     | nil=>rw[hbl]at hlt;exact absurd hlt (not_lt_nil _)
     | cons y r =>
      obtain⟨z,hz⟩:=hin b y r (List.mem_of_getElem? hb) hbl
      have:=jxE hz
      omega
    | cons x r =>
     cases hbl:b.l with
     | nil=>rw[hbl]at hlt;exact absurd hlt (not_lt_nil _)
     | cons y t =>
      obtain⟨z,hz⟩:=hin a x r (List.mem_of_getElem? ha) hal
      obtain⟨z',hz'⟩:=hin b y t (List.mem_of_getElem? hb) hbl
      have hxy:x≠y:=by
       intro e;rw[hal,hbl,e]at hk0;simp[jaV]at hk0
      have:=jx9 hz hz' (fun e=>hxy (UInt8.toNat_inj.1 (Prod.mk.inj e).1))
      omega
   have hg:jbx (InlD (f+1)) (jav (jac (f+1)) l):=by
    rw[e];refine .branch _ _ hrl ?_ hmay hcount;split
    ·exact sa5
    ·exact Nat.zero_le _
   refine⟨hg,fun _=>⟨rfl,hg,by rw[e];simp,fun hsm=>?_⟩,fun _ _=>by rw[e]⟩
   have hbel:(jac (f+1+1) l).kids=(List.range 16).flatMap fun i=>if (cutL i l).length=0 then []else jbP (jac (f+1) (jal 1 (cutL i l))):=by
    show jaB (jac (f+1)) l=_;unfold jaB;rw[if_neg vO,if_neg hk]
   rw[hbel,List.flatMap_eq_nil_iff];intro i hi;have hi16:=List.mem_range.1 hi
   by_cases hc:(cutL i l).length=0
   ·rw[if_pos hc]
   ·rw[if_neg hc]
    unfold jbP;rw[if_pos];rcases Nat.lt_or_ge (jac (f+1) (jal 1 (cutL i l))).text.size 32 with hx | hx
    ·exact hx
    ·have h33:=jxS (T:=jac (f+1) (jal 1 (cutL i l))) vO
     have ht:(jac (f+1+1) l).text=jdN (jav (jac (f+1)) l):=by show jaN (jav (jac (f+1)) l)=_;rw[e];rfl
     rw[ht,e]at hsm;have h6:=hri i hi16;rw[if_neg hc]at h6;have hb1:jbH ⟨3,⟨#[]⟩,if a.1.size=0 then a.2 else ⟨#[]⟩,rs⟩=ja0 rs (if a.1.size=0 then a.2 else ⟨#[]⟩):=jdl _ hrl;have hmem:refB (jac (f+1) (jal 1 (cutL i l))).text∈ja0 rs (if a.1.size=0 then a.2 else ⟨#[]⟩):=by
      unfold ja0;refine List.mem_append_left _ (List.mem_map.2 ⟨_,List.mem_of_getElem? h6,?_⟩);rw[if_neg vO]
     have h7:=jg6 _ _ hmem;have h8:=jjG (ja0 rs (if a.1.size=0 then a.2 else ⟨#[]⟩));have hsm':(ja4 (jbH ⟨3,⟨#[]⟩,if a.1.size=0 then a.2 else ⟨#[]⟩,rs⟩)).size < 32:=hsm;rw[hb1]at hsm';omega
def jho(l:List Pair)(T:PT):Prop:=∀ (w:World) (v:Value),jb2 w->RdP w v l->vQ 78 #[v] w fun e w'=>∃ k,e=.returned (ptrV k)/\jbB (fun x=>w.heap.size<=x) T k w'/\Ext w w'
theorem js4(w:World)(W1 W2:World)(bn:Nat)(h1:W1=w.alloc (.cells #[.string ⟨#[]⟩,.slice none 0 0] 159))(h2:Ext W1 W2)(h3:bn=W1.heap.size)(h4:bn < W2.heap.size):jds w W2 w.heap.size bn ⟨#[]⟩ [] (.slice none 0 0) []:=by
 have hs:W1.heap.size=w.heap.size+1:=by rw[h1,World.size_alloc]
 have hE:Ext w W2:=(by rw[h1]at h2;exact ((ExtR w).alloc _).trans h2)
 refine⟨?_,Nat.le_refl _,ORow.nil _ _ hE,fun _=>rfl,fun e=>(by cases e),by omega,fun e=>(by cases e),by omega,h4,by unfold jaQ;rfl⟩
 rw[h1]at h2;exact (Blk.new w _).keeps h2 (fun h=>h)
theorem jof(f:Nat)(l:List Pair)(h0:l.length=0):jho l (jac (f+1) l):=by
 intro w v hc hv
 obtain⟨a,c,hsl⟩:=hv.sl
 rw[h0]at hsl;subst hsl;have ht:jac (f+1) l=.mk (jaN jar) []:=by
  show PT.mk (jaN (jav _ l)) (jaB _ l)=_;unfold jav jaB;rw[if_pos h0,if_pos vO]
 rw[ht];clear hv hc h0
 obtain⟨W1,hW1⟩:=vE (w.alloc (.cells #[.string ⟨#[]⟩,.slice none 0 0] 159))
 have HW1:=Hd hW1;go_enter Tryz.func78,Tryz.ntmps78;go_wp2_with (first |(refine jah Tryz.allocNode rfl rfl ?_;intro W3 hB3 hE3;refine jag (vs:=jar.cells) rfl rfl rfl rfl hB3 rfl Tryz.szNode (jad.one _) ?_;intro W4 hB4 hE4;simp only[World.size_alloc]at hB4 hE4) |(refine jaf 144 (.tmp 4) rfl rfl _ _ rfl (jan _ _ jar rfl hB4) ?_))
 have hE34:Ext W1 W4:=by
  rw[<-hW1]at hE3;exact hE3.trans' hE4 (fun x hx e=>by have e:x=w.heap.size+1:=e;rw[hW1,World.size_alloc]at hx;omega)
 have HH:=Hd (js4 w W1 W4 (w.heap.size+1) hW1 hE34 (by rw[hW1,World.size_alloc]) hB4.lt);have HG:=Hd (jbx.none (I:=InlD f));clear hE3 hE4 hB3 hW1 HW1 ht;unfold jad.V;refine vC (jiY (inlP f) _ jar HG.o) fun w9 hE=>?_;have h9:=HH.o.ext hE;have q0:w9.cell? ⟨w.heap.size,0,none⟩=some (.string ⟨#[]⟩):=h9.blk.cell (i:=0) vF;have f0:w9.frozen? ⟨w.heap.size,0,none⟩=false:=h9.blk.frozen;have H9:=Hd (h9.setText (jaN jar))
 obtain⟨tx,htx⟩:=vE (jaN jar)
 rw[<-htx]at H9 ⊢;have HTX:=Hd htx;clear h9 hE htx hB4 hE34;go_wp2_with fail
 go_ret
 exact⟨w.heap.size,rfl,by rw[<-HTX.o];exact H9.o.part,H9.o.row.ext⟩
theorem jpJ(f:Nat)(l:List Pair)(h1:l.length=1)(hok:jaA f l):jho l (jac (f+1) l):=by
 intro w v hc hv
 obtain⟨p,hp⟩:∃ p,l=[p]:=by
  match l,h1 with
  | [p],_=>exact⟨p,rfl⟩
 have hn:jav (jac f) l=⟨1,p.1,p.2,jam 16⟩:=by unfold jav;rw[if_neg vO,if_pos h1,hp];rfl
 have hgood:=(good f l hok).1;rw[hn]at hgood;have ht:jac (f+1) l=.mk (jaN ⟨1,p.1,p.2,jam 16⟩) []:=by
  show PT.mk (jaN (jav _ l)) (jaB _ l)=_;rw[hn];unfold jaB;rw[if_pos vO]
 obtain⟨T,hT⟩:=vE (jac (f+1) l)
 rw[<-hT]at ht ⊢;have HT:=Hd ht;rcases hv with⟨_,_,_,h0⟩ |⟨b,o,c,rfl,hb,hcl,hcell⟩
 ·rw[h0]at h1;cases h1
 obtain⟨q1,q2⟩:=hcell 0 p (by rw[hp];rfl)
 rw[Nat.zero_mul,Nat.add_zero]at q1 q2;rw[h1]at hcl ⊢
 obtain⟨x,y⟩:=p
 have hgood:=hgood;have Q1:=Hd q1;have Q2:=Hd q2;have HG:=Hd hgood
 obtain⟨W1,hW1⟩:=vE (w.alloc (.cells #[.string ⟨#[]⟩,.slice none 0 0] 159))
 clear hc h1 hok hp hn hgood ht hT hcell q1 q2;go_enter Tryz.func78,Tryz.ntmps78;go_wp2_with (refine jah Tryz.allocNode rfl rfl ?_;intro W3 hB3 hE3;refine jag (vs:=jar.cells) rfl rfl rfl rfl hB3 rfl Tryz.szNode (jad.one _) ?_;intro W4 hB4 hE4;simp only[World.size_alloc]at hB4 hE4)
 have hE34:Ext W1 W4:=by
  rw[<-hW1]at hE3;exact hE3.trans' hE4 (fun x hx e=>by have e:x=w.heap.size+1:=e;rw[hW1,World.size_alloc]at hx;omega)
 have hh:=js4 w W1 W4 (w.heap.size+1) hW1 hE34 (by rw[hW1,World.size_alloc]) hB4.lt;have HH0:=Hd hh;have HB4:=Hd hB4;clear hE3 hE4 hB3 hW1 hB4 hE34 hh;refine jau [0,1,2,3,4,5,6,7,8,9] [9] Ext ExtR ExtT vY vY vY ?_;iterate 3 refine vP ?_
 refine qL ⟨b,o,none⟩ _ rfl (fun w1 h1=>jab Tryz.uStr rfl (jaa (jaa (by exact Q1.o) (HH0.o.row.ext.trans (jaj _))) h1)) ?_;refine vS ?_;iterate 3 refine vP ?_
 refine qL ⟨b,o+1,none⟩ _ rfl (fun w1 h1=>jab Tryz.uStr rfl (jaa (jaa (by exact Q2.o) (HH0.o.row.ext.trans (jaj _))) h1)) ?_;refine vS ?_
 refine vP ?_
 refine qH _ rfl (fun w5 he K hK=>?_);have hX:=(jaj W4).trans he;refine jkl (vs:=jb4 1 x y ⟨#[]⟩) rfl rfl rfl (HB4.o.keeps hX (fun h=>h)) rfl Tryz.szNode (jb5 _ _ _ _) ?_;intro W6 hB6 hE6;have H6:=Hd ((HH0.o.ext hX).other hE6);have HB6:=Hd (show Blk W6 (w.heap.size+1) (.cells (jad.cells ⟨1,x,y,jam 16⟩).toArray 144)from hB6);clear he hX hB6 hE6 Q1 Q2 HB4 HH0;refine vS ?_;refine hK _ _ ?_;clear hK K;refine qE (fun w7 he=>?_);have HH:=Hd (H6.o.ext he);have hB7:=HB6.o.keeps he (fun h=>h);clear he HB6 H6;go_wp2_with (refine jaf 144 (.tmp 4) rfl rfl _ _ rfl (jan _ _ ⟨1,x,y,jam 16⟩ rfl hB7) ?_)
 refine vC (jiY (inlP _) _ ⟨1,x,y,jam 16⟩ HG.o) fun w9 hE=>?_;have h9:=HH.o.ext hE;have q0:w9.cell? ⟨w.heap.size,0,none⟩=some (.string ⟨#[]⟩):=h9.blk.cell (i:=0) vF;have f0:w9.frozen? ⟨w.heap.size,0,none⟩=false:=h9.blk.frozen;have H9:=Hd (h9.setText (jaN ⟨1,x,y,jam 16⟩))
 obtain⟨tx,htx⟩:=vE (jaN ⟨1,x,y,jam 16⟩)
 rw[<-htx]at H9 ⊢;have HTX:=Hd htx;clear h9 hE htx;go_wp2_with fail
 go_ret
 exact⟨w.heap.size,rfl,by rw[HT.o, <-HTX.o];exact H9.o.part,H9.o.row.ext⟩
theorem jpI(f:Nat)(l:List Pair)(h2:2<=l.length)(hln:l.length<=1000)(hok:jaA (f+1) l)(hk:0 < comK l)(HB:jho (jal (comK l) l) (jac (f+1) (jal (comK l) l))):jho l (jac (f+1+1) l):=by
 intro w v hc hv
 obtain⟨a,ha⟩:∃ a,l[0]?=some a:=⟨_,List.getElem?_eq_getElem vO⟩
 obtain⟨z,hz⟩:∃ z,l[l.length - 1]?=some z:=⟨_,List.getElem?_eq_getElem vO⟩
 have ga:l.getD 0 pd=a:=by rw[List.getD_eq_getElem?_getD,ha];rfl
 have gz:l.getD (l.length - 1) pd=z:=by rw[List.getD_eq_getElem?_getD,hz];rfl
 obtain⟨sa1,sa2,sa3,sa4,sa5⟩:=hok.size a (List.mem_of_getElem? ha)
 obtain⟨sz1,sz2,sz3,sz4,sz5⟩:=hok.size z (List.mem_of_getElem? hz)
 have hgood:=(good (f+1) l hok).1;have hrd:=hv;rcases hv with⟨_,_,_,h0⟩ |⟨b,o,c,rfl,hb,hcl,hcell⟩
 ·rw[h0]at h2;simp at h2
 obtain⟨q1,q1v⟩:=hcell 0 a ha
 rw[Nat.zero_mul,Nat.add_zero]at q1 q1v
 obtain⟨q2,_⟩:=hcell (l.length - 1) z hz
 obtain⟨kk,hkk⟩:=vE (comK l)
 have hkc:kk=jak a.1 z.1:=by rw[hkk];unfold comK;rw[ga,gz]
 obtain⟨x,y⟩:=a
 obtain⟨xb,yb⟩:=z
 simp only at sa1 sa2 sa3 sa4 sa5 sz1 sz2 sz3 sz4 sz5 q1 q1v q2 hkc;have hsub:=jcv (comK l) hok (fun p hp q hq=>((jbu hok h2 p hp).1).trans (jbu hok h2 q hq).1.symm) (fun p hp=>(jbu hok h2 p hp).2);have hka:=(jbu hok h2 (x,y) (List.mem_of_getElem? ha)).2;have hsz:∀ p∈l,kk<=p.1.size/\p.1.size<=1000000:=fun p hp=>⟨by rw[hkk];exact (jbu hok h2 p hp).2,by have:=(hok.size p hp).2.1;omega⟩;rw[<-hkk]at hk hsub hka HB;have hka:kk<=x.size:=hka
 obtain⟨T',hT'⟩:∃ T',T'=jac (f+1) (jal kk l):=⟨_,rfl⟩
 have hst:=(good f _ (hsub.mono vO)).2.1 (fun e=>by have:=jaH kk l;rw[e]at this;simp at this;omega);rw[<-hT']at HB hst
 obtain⟨r,hr⟩:=vE (refB T'.text)
 have hn:jav (jac (f+1)) l=⟨2,x.extract 0 kk,⟨#[]⟩,r :: jam 15⟩:=by unfold jav;rw[if_neg vO,if_neg vO, <-hkk,if_pos hk,ga, <-hT', <-hr]
 rw[hn]at hgood;have ht:jac (f+1+1) l=.mk (jaN ⟨2,x.extract 0 kk,⟨#[]⟩,r :: jam 15⟩) (jbP T'):=by
  show PT.mk (jaN (jav _ l)) (jaB _ l)=_;rw[hn];unfold jaB;rw[if_neg vO, <-hkk,if_pos hk, <-hT']
 obtain⟨T,hT⟩:=vE (jac (f+1+1) l)
 rw[<-hT]at ht ⊢;have c0:((l.length:Int) == 0)=false:=by simp;exact fun e=>by rw[e]at h2;simp at h2
 have c1:¬(l.length:Int)=0:=by omega
 have c2:((l.length:Int) == 1)=false:=by simp;omega
 have c3:¬(l.length:Int)=1:=by omega
 have c4:(0:Int)<=(l.length:Int) - 1:=by omega
 have c5:(l.length:Int) - 1 < (l.length:Int):=by omega
 have c6:((l.length:Int) - 1).toNat=l.length - 1:=by omega
 have c7:(0:Int) < (l.length:Int):=by omega
 have d7:0 < l.length:=by omega
 have d0:0 < kk:=hk;have e0:(0:Int) < (kk:Int):=by omega
 have e1:(kk:Int)<=(x.size:Int):=by omega
 have e2:(x.extract 0 kk).size=kk:=by rw[ByteArray.size_extract];omega
 have HT:=Hd ht;have Q1:=Hd q1;have Q2:=Hd q2;have HKK:=Hd hkc;have HG:=Hd hgood;have HRD:=Hd hrd;have HSZ:=Hd hsz;have HKID:=Hd hst.kid;have HR:=Hd hr;have HBB:=Hd HB;have HC:=Hd hc;have HL:=Hd (show jal kk l≠[]from fun e=>by have:=jaH kk l;rw[e]at this;simp at this;omega);have HLN:=Hd (show (jal kk l).length<=1000000 by rw[jaH];omega);clear hc ha hz ga gz hok hgood hrd hcell q1 q1v q2 hkk hkc hsub hka hsz hT' hst hr hn ht hT HB sa3 sz3 e2
 obtain⟨W1,hW1⟩:=vE (w.alloc (.cells #[.string ⟨#[]⟩,.slice none 0 0] 159))
 go_enter Tryz.func78,Tryz.ntmps78;go_wp2_with (refine jah Tryz.allocNode rfl rfl ?_;intro W3 hB3 hE3;refine jag (vs:=jar.cells) rfl rfl rfl rfl hB3 rfl Tryz.szNode (jad.one _) ?_;intro W4 hB4 hE4;simp only[World.size_alloc]at hB4 hE4)
 have hE34:Ext W1 W4:=by
  rw[<-hW1]at hE3;exact hE3.trans' hE4 (fun x hx e=>by have e:x=w.heap.size+1:=e;rw[hW1,World.size_alloc]at hx;omega)
 have hh:=js4 w W1 W4 (w.heap.size+1) hW1 hE34 (by rw[hW1,World.size_alloc]) hB4.lt;have HH0:=Hd hh;have HB4:=Hd hB4;have HX:=Hd hh.row.ext;clear hE3 hE4 hB3 hW1 hB4 hE34 hh;refine jai [0,1,2,3,4,5,6,7,8,9,10,11,12,13] Ext ExtR ExtT vY vY vY ?_;iterate 3 refine vK ?_
 refine qKL ⟨b,o,none⟩ _ rfl (fun w1 h1=>jab Tryz.uStr rfl (jaa (jaa (by exact Q1.o) (HX.o.trans (jaj _))) h1)) ?_;refine vS ?_;iterate 6 refine vK ?_
 refine qKL ⟨b,o+(l.length - 1) * 2,none⟩ _ rfl (fun w1 h1=>jab Tryz.uStr rfl (jaa (jaa (by exact Q2.o) (HX.o.trans (jaj _))) h1)) ?_;refine vS ?_;refine qKC _ 124 #[.string x,.string xb] (.int .i64 (kk:Nat)) rfl (fun w1=>jay (vX 124) vY) (fun w1 h1=>by rw[HKK.o];exact (jfa w1 x xb vO vO).mono (fun e w2 ⟨h1,n,h2⟩=>⟨h1,by rw[h2];exact (ExtR w1).drewN n⟩)) ?_;refine vS ?_;iterate 2 refine vK ?_
 refine qKE (fun w5 he=>?_);have hX5:=(jaj W4).trans he;have HH5:=Hd (HH0.o.ext hX5);have HB5:=Hd (HB4.o.keeps hX5 (fun h=>h));have HX:=Hd (HX.o.trans hX5);clear he hX5 HH0 HB4;go_wp2_with fail
 refine jai [0,1,2,3,4,5,6,7,8,9,10,11,12] Ext ExtR ExtT vY vY vY ?_;iterate 3 refine vK ?_
 refine qKL ⟨b,o,none⟩ _ rfl (fun w1 h1=>jab Tryz.uStr rfl (jaa (jaa (by exact Q1.o) (HX.o.trans (jaj _))) h1)) ?_;refine vS ?_;iterate 6 refine vK ?_
 refine qKL ⟨b,o+(l.length - 1) * 2,none⟩ _ rfl (fun w1 h1=>jab Tryz.uStr rfl (jaa (jaa (by exact Q2.o) (HX.o.trans (jaj _))) h1)) ?_;refine vS ?_;refine qKC _ 124 #[.string x,.string xb] (.int .i64 (kk:Nat)) rfl (fun w1=>jay (vX 124) vY) (fun w1 h1=>by rw[HKK.o];exact (jfa w1 x xb vO vO).mono (fun e w2 ⟨h1,n,h2⟩=>⟨h1,by rw[h2];exact (ExtR w1).drewN n⟩)) ?_;refine vS ?_
 refine vK ?_
 refine qKE (fun w6 he=>?_);have hX6:=(jaj w5).trans he;have HH6:=Hd (HH5.o.ext hX6);have hB6:=HB5.o.keeps hX6 (fun h=>h);have HX:=Hd (HX.o.trans hX6);have q6:=jaa Q1.o HX.o;clear he hX6 HH5 HB5;go_wp2_with (refine jag (vs:=jb4 2 (x.extract 0 kk) ⟨#[]⟩ ⟨#[]⟩) rfl rfl rfl rfl hB6 rfl Tryz.szNode (jb5 _ _ _ _) ?_;intro W7 hB7 hE7)
 have HH7:=Hd (HH6.o.other hE7);have HB7:=Hd hB7;clear hB7 hE7 hB6 q6;have HX:=Hd HH7.o.row.ext;refine (jlO W7 _ kk l (HRD.o.ext HX.o) vO HSZ.o).mono ?_;rintro e w8 ⟨v8,rfl,hr8⟩;have hX8:Ext W7 w8:=hr8.ext;have HH8:=Hd (HH7.o.ext hX8);have HB8:=Hd (HB7.o.keeps hX8 (fun h=>h));have HRD8:=Hd hr8.rd;have hC8:=HC.o.ext (HX.o.trans hX8)
 obtain⟨a8,c8,hv8⟩:=hr8.sl
 subst hv8;clear hr8 hX8;go_wp2_with fail
 refine (jup hC8 HH8.o (by simp) _ (jal kk l) HRD8.o HL.o HLN.o T' HKID.o (HBB.o w8 _ hC8 HRD8.o)).mono ?_;rintro e w10 ⟨u,bs,rfl,h10,hbs,hE10,hk10⟩;rw[<-HR.o];have hB10:=HB8.o.keeps hk10 (by rintro (h | h) <;> first | omega | cases h);have q3:w10.cell? ⟨w.heap.size+1,3,none⟩=some (.string ⟨#[]⟩):=hB10.cell (i:=3) vF;have f3:w10.frozen? ⟨w.heap.size+1,3,none⟩=false:=hB10.frozen;have hB11:=hB10.set_same (i:=3) (.string r);have HB11:Hid (Blk (w10.setCell ⟨w.heap.size+1,3,none⟩ (.string r)) (w.heap.size+1) (.cells (jad.cells ⟨2,x.extract 0 kk,⟨#[]⟩,r :: jam 15⟩).toArray 144)):=Hd hB11;have HH:=Hd (h10.other (jae.oneSet w10 ⟨w.heap.size+1,3,none⟩ (.string r)));clear h10 hE10 hk10 hB10 hB11;go_wp2_with (refine jaf 144 (.tmp 4) rfl rfl _ _ rfl (jan _ _ ⟨2,x.extract 0 kk,⟨#[]⟩,r :: jam 15⟩ rfl HB11.o) ?_)
 refine vC (jiY (inlP _) _ ⟨2,x.extract 0 kk,⟨#[]⟩,r :: jam 15⟩ HG.o) fun w9 hE=>?_;have h9:=HH.o.ext hE;have q0:w9.cell? ⟨w.heap.size,0,none⟩=some (.string ⟨#[]⟩):=h9.blk.cell (i:=0) vF;have f0:w9.frozen? ⟨w.heap.size,0,none⟩=false:=h9.blk.frozen;have H9:=Hd (h9.setText (jaN ⟨2,x.extract 0 kk,⟨#[]⟩,r :: jam 15⟩))
 obtain⟨tx,htx⟩:=vE (jaN ⟨2,x.extract 0 kk,⟨#[]⟩,r :: jam 15⟩)
 rw[<-htx]at H9 ⊢;have HTX:=Hd htx;clear h9 hE htx;go_wp2_with fail
 go_ret
 exact⟨w.heap.size,rfl,by rw[HT.o, <-HTX.o];exact H9.o.part,H9.o.row.ext⟩
end Go.Proofs.YtcpnjmcipainpaaGreatDoor
