/- Lemmas; each is under no condition but those that it states. -/
import Derived.Test.YtegloohdmjadoaaGreatDoorPu24
namespace Go.Proofs.YtegloohdmjadoaaGreatDoor
set_option linter.unusedSimpArgs false
set_option linter.unusedVariables false
set_option maxRecDepth 100000
set_option maxHeartbeats 16000000
open Go Go.RowKit
def jAq(w:vW)(l:vL)(i:vV)(wr:vW):Prop:=∃ k:Nat,k<=l.length/\i=.int .i64 k/\Ext w wr/\(List.range k).any (badN l)=false
theorem jvi(w:vW)(v:vV)(l:vL)(hv:RdP w v l)(hn:l.length<=9223372036854775807)(hs:jdH l):vR 37 #[v] w (.int .i64 (jaD l)):=by
 have HV:=Hd hv;have HS:=Hd hs
 obtain⟨a,c,rfl⟩:=hv.sl;clear hv hs
 obtain⟨R,hR⟩:=vE (jaD l)
 rw[<-hR];have HR:=Hd hR;clear hR;go_enter Tryz.func37,Tryz.ntmps37;go_wp2_with fail
 go_loopw [3] (fun i wr=>jAq w l i wr) (fun i _=>l.length - (intOf i).toNat)
 case atStart=>exact⟨0,by omega,rfl,ExtR w,rfl⟩
 case round =>
  obtain⟨k,hk,rfl,hE,a1⟩:=hrel
  have HE:=Hd hE;have a2:=Hd a1;clear hE a1
  by_cases hlt:k < l.length
  ·have b1:(k:Int) < (l.length:Int):=vO
   rcases HV.o with⟨_,_,_,h0⟩ |⟨b,o,c1,hh,hb,hc,hcell⟩
   ·rw[h0]at hlt;cases hlt
   cases hh
   obtain⟨p,hp⟩:∃ p,l[k]?=some p:=⟨_,bA hlt⟩
   obtain⟨H,Q⟩:=hcell k p hp
   have H:=jaa H HE.o;have Q:=jaa Q HE.o;have A:=HS.o p (bE hp);have m:l.getD k (⟨#[]⟩,⟨#[]⟩)=p:=by rw[bC,hp];rfl
   obtain⟨x,y⟩:=p
   simp only at H Q A;have J:=Hd (fun w1=>jwd w1 x A.1);have O:=Hd (fun w1=>jpa w1 y A.2);have X:=Hd (fun(h:badN l k=true)=>(show R=1 by
    rw[HR.o];unfold jaD;rw[if_pos (gO.2 ⟨k,dZ.2 hlt,h⟩)]))
   have a8:=Hd (fun(h:badN l k=false)=>(show (List.range (k+1)).any (badN l)=false by rw[fT,List.any_append,a2.o];simp[h]));cases hk1:jcg x with
   | false =>
    rw[hk1]at J;have HB:=Hd (X.o (by unfold badN;rw[m,hk1];rfl));clear hcell hp hb hc hk1 m A;go_wp2_with fail
    refine jah [0,1,2,3,4,5,6,7,8,9,10,11,12,13,14,15,16,17,18,19,20,21,22,23,24,25,26,27,28,29,30,31,32,33,34] Ext ExtR ExtT vY vY vY ?_;iterate 4 refine vK ?_
    refine qKL ⟨b,o+k * 2,none⟩ _ rfl (fun w1 e=>jab Tryz.uStr rfl (jaa H ((jai _).trans e))) ?_;refine vS ?_;refine qKC _ 73 #[.string x] (.bool false) rfl (fun w1=>jat (vX 73) vY) (fun w1 e=>J.o w1) ?_;refine vS ?_;iterate 2 refine vK ?_
    iterate 7 (refine qKS _ rfl ?_;refine vS ?_)
    iterate 2 refine vK ?_
    iterate 17 (refine qKS _ rfl ?_;refine vS ?_)
    refine vK ?_
    refine qKE (fun w3 K=>?_);have E:=Hd (HE.o.trans ((jai _).trans K));clear K H Q;go_wp2_with fail
    go_ret
    exact⟨by rw[HB.o];rfl,E.o⟩
   | true =>
    rw[hk1]at J;cases hv1:jbR y with
    | false =>
     rw[hv1]at O;have HB:=Hd (X.o (by unfold badN;rw[m,hk1,hv1];rfl));clear hcell hp hb hc hk1 hv1 m A;go_wp2_with fail
     refine jah [0,1,2,3,4,5,6,7,8,9,10,11,12,13,14,15,16,17,18,19,20,21,22,23,24,25,26,27,28,29,30,31,32,33,34] Ext ExtR ExtT vY vY vY ?_;iterate 4 refine vK ?_
     refine qKL ⟨b,o+k * 2,none⟩ _ rfl (fun w1 e=>jab Tryz.uStr rfl (jaa H ((jai _).trans e))) ?_;refine vS ?_;refine qKC _ 73 #[.string x] (.bool true) rfl (fun w1=>jat (vX 73) vY) (fun w1 e=>J.o w1) ?_;refine vS ?_;iterate 6 refine vK ?_
     refine qKL ⟨b,o+k * 2+1,none⟩ _ rfl (fun w1 e=>jab Tryz.uStr rfl (jaa Q ((jai _).trans e))) ?_;refine vS ?_;refine qKC _ 74 #[.string y] (.bool false) rfl (fun w1=>jat (vX 74) vY) (fun w1 e=>O.o w1) ?_;refine vS ?_;iterate 3 refine vK ?_
     iterate 17 (refine qKS _ rfl ?_;refine vS ?_)
     refine vK ?_
     refine qKE (fun w3 K=>?_);have E:=Hd (HE.o.trans ((jai _).trans K));clear K H Q;go_wp2_with fail
     go_ret
     exact⟨by rw[HB.o];rfl,E.o⟩
    | true =>
     rw[hv1]at O
     by_cases hk0:k=0
     ·have d0:¬(0:Int) < (k:Int):=vO
      have d1:decide ((0:Int) < (k:Int))=false:=decide_eq_false d0;have d2:¬ 0 < k:=vO
      have d3:decide (0 < k)=false:=decide_eq_false d2;have a6:=Hd (a8.o (by unfold badN;rw[m,hk1,hv1,hk0];rfl));clear hcell hp hb hc hk1 hv1 m A hk0;go_wp2_with fail
      refine jah [0,1,2,3,4,5,6,7,8,9,10,11,12,13,14,15,16,17,18,19,20,21,22,23,24,25,26,27,28,29,30,31,32,33,34] Ext ExtR ExtT vY vY vY ?_;iterate 4 refine vK ?_
      refine qKL ⟨b,o+k * 2,none⟩ _ rfl (fun w1 e=>jab Tryz.uStr rfl (jaa H ((jai _).trans e))) ?_;refine vS ?_;refine qKC _ 73 #[.string x] (.bool true) rfl (fun w1=>jat (vX 73) vY) (fun w1 e=>J.o w1) ?_;refine vS ?_;iterate 6 refine vK ?_
      refine qKL ⟨b,o+k * 2+1,none⟩ _ rfl (fun w1 e=>jab Tryz.uStr rfl (jaa Q ((jai _).trans e))) ?_;refine vS ?_;refine qKC _ 74 #[.string y] (.bool true) rfl (fun w1=>jat (vX 74) vY) (fun w1 e=>O.o w1) ?_;refine vS ?_;iterate 6 refine vK ?_
      iterate 13 (refine qKS _ rfl ?_;refine vS ?_)
      iterate 2 refine vK ?_
      refine qKE (fun w3 K=>?_);have E:=Hd (HE.o.trans ((jai _).trans K));clear K H Q;go_wp2_with fail
      go_roundw
      case rel=>exact⟨k+1,by omega,by go_num,E.o,a6.o⟩
      case measure=>exact vJ
     ·obtain⟨pp,Z⟩:∃ p,l[k - 1]?=some p:=⟨_,bA vO⟩
      have a3:=(HS.o pp (bE Z)).1
      obtain⟨z,zy⟩:=pp
      have qp:=jaa (hcell (k - 1) (z,zy) Z).1 HE.o;have a4:l.getD (k - 1) (⟨#[]⟩,⟨#[]⟩)=(z,zy):=by rw[bC,Z];rfl
      simp only at a3 qp;have c0:(0:Int) < (k:Int):=vO
      have d0:0 < k:=vO
      have c1:(0:Int)<=(k:Int) - 1:=vO
      have c2:(k:Int) - 1 < (l.length:Int):=vO
      have c3:((k:Int) - 1).toNat=k - 1:=vO
      have a5:=Hd (fun w1=>jqP w1 z x a3 A.1);cases hls:jch z x with
      | false =>
       rw[hls]at a5;have HB:=Hd (X.o (by unfold badN;rw[m,hk1,hv1,a4];simp only;rw[hls];simp;omega));clear hcell hp hb hc hk1 hv1 m A Z a4 hls hk0 a3;go_wp2_with fail
       refine jah [0,1,2,3,4,5,6,7,8,9,10,11,12,13,14,15,16,17,18,19,20,21,22,23,24,25,26,27,28,29,30,31,32,33,34] Ext ExtR ExtT vY vY vY ?_;iterate 4 refine vK ?_
       refine qKL ⟨b,o+k * 2,none⟩ _ rfl (fun w1 e=>jab Tryz.uStr rfl (jaa H ((jai _).trans e))) ?_;refine vS ?_;refine qKC _ 73 #[.string x] (.bool true) rfl (fun w1=>jat (vX 73) vY) (fun w1 e=>J.o w1) ?_;refine vS ?_;iterate 6 refine vK ?_
       refine qKL ⟨b,o+k * 2+1,none⟩ _ rfl (fun w1 e=>jab Tryz.uStr rfl (jaa Q ((jai _).trans e))) ?_;refine vS ?_;refine qKC _ 74 #[.string y] (.bool true) rfl (fun w1=>jat (vX 74) vY) (fun w1 e=>O.o w1) ?_;refine vS ?_;iterate 11 refine vK ?_
       refine qKL ⟨b,o+(k - 1) * 2,none⟩ _ rfl (fun w1 e=>jab Tryz.uStr rfl (jaa qp ((jai _).trans e))) ?_;refine vS ?_;iterate 4 refine vK ?_
       refine qKL ⟨b,o+k * 2,none⟩ _ rfl (fun w1 e=>jab Tryz.uStr rfl (jaa H ((jai _).trans e))) ?_;refine vS ?_;refine qKC _ 75 #[.string z,.string x] (.bool false) rfl (fun w1=>jat (vX 75) vY) (fun w1 e=>a5.o w1) ?_;refine vS ?_;iterate 3 refine vK ?_
       refine qKE (fun w3 K=>?_);have E:=Hd (HE.o.trans ((jai _).trans K));clear K H Q qp;go_wp2_with fail
       go_ret
       exact⟨by rw[HB.o];rfl,E.o⟩
      | true =>
       rw[hls]at a5;have a6:=Hd (a8.o (by unfold badN;rw[m,hk1,hv1,a4];simp only;rw[hls];simp));clear hcell hp hb hc hk1 hv1 m A Z a4 hls hk0 a3;go_wp2_with fail
       refine jah [0,1,2,3,4,5,6,7,8,9,10,11,12,13,14,15,16,17,18,19,20,21,22,23,24,25,26,27,28,29,30,31,32,33,34] Ext ExtR ExtT vY vY vY ?_;iterate 4 refine vK ?_
       refine qKL ⟨b,o+k * 2,none⟩ _ rfl (fun w1 e=>jab Tryz.uStr rfl (jaa H ((jai _).trans e))) ?_;refine vS ?_;refine qKC _ 73 #[.string x] (.bool true) rfl (fun w1=>jat (vX 73) vY) (fun w1 e=>J.o w1) ?_;refine vS ?_;iterate 6 refine vK ?_
       refine qKL ⟨b,o+k * 2+1,none⟩ _ rfl (fun w1 e=>jab Tryz.uStr rfl (jaa Q ((jai _).trans e))) ?_;refine vS ?_;refine qKC _ 74 #[.string y] (.bool true) rfl (fun w1=>jat (vX 74) vY) (fun w1 e=>O.o w1) ?_;refine vS ?_;iterate 11 refine vK ?_
       refine qKL ⟨b,o+(k - 1) * 2,none⟩ _ rfl (fun w1 e=>jab Tryz.uStr rfl (jaa qp ((jai _).trans e))) ?_;refine vS ?_;iterate 4 refine vK ?_
       refine qKL ⟨b,o+k * 2,none⟩ _ rfl (fun w1 e=>jab Tryz.uStr rfl (jaa H ((jai _).trans e))) ?_;refine vS ?_;refine qKC _ 75 #[.string z,.string x] (.bool true) rfl (fun w1=>jat (vX 75) vY) (fun w1 e=>a5.o w1) ?_;refine vS ?_;iterate 3 refine vK ?_
       refine qKE (fun w3 K=>?_);have E:=Hd (HE.o.trans ((jai _).trans K));clear K H Q qp;go_wp2_with fail
       go_roundw
       case rel=>exact⟨k+1,by omega,by go_num,E.o,a6.o⟩
       case measure=>exact vJ
  ·have a7:k=l.length:=vO
   have a0:=Hd (show (List.range l.length).any (badN l)=false by have:=a2.o;rwa [a7]at this);have b1:¬(k:Int) < (l.length:Int):=vO
   by_cases h40:40 < l.length
   ·have c4:(40:Int) < (l.length:Int):=vO
    have HB:=Hd (show R=12 by rw[HR.o];unfold jaD;rw[if_neg (by rw[a0.o];simp),if_pos h40]);clear a7 h40;go_wp2_with fail
    go_ret
    exact⟨by rw[HB.o];rfl,HE.o⟩
   ·have c4:¬(40:Int) < (l.length:Int):=vO
    have HB:=Hd (show R=0 by rw[HR.o];unfold jaD;rw[if_neg (by rw[a0.o];simp),if_neg h40]);clear a7 h40;go_wp2_with fail
    go_ret
    exact⟨by rw[HB.o];rfl,HE.o⟩
def jAs(w:vW)(cs:List Chg)(i:vV)(wr:vW):Prop:=∃ k:Nat,k<=cs.length/\i=.int .i64 k/\Ext w wr/\(cs.take k).any Chg.bad=false
theorem jxL(w:vW)(v:vV)(cs:List Chg)(hu:RdC w v cs)(hn:cs.length<=9223372036854775807)(hsc:jjo cs):vR 38 #[v] w (.bool (!cs.any Chg.bad)):=by
 have HU:=Hd hu;have a6:=Hd hsc
 obtain⟨a,c,rfl⟩:=hu.sl;clear hu hsc
 obtain⟨R,hR⟩:∃ R,R = !cs.any Chg.bad:=⟨_,rfl⟩
 rw[<-hR];have HR:=Hd hR;clear hR;go_enter Tryz.func38,Tryz.ntmps38;go_wp2_with fail
 go_loopw [3] (fun i wr=>jAs w cs i wr) (fun i _=>cs.length - (intOf i).toNat)
 case atStart=>exact⟨0,by omega,rfl,ExtR w,rfl⟩
 case round =>
  obtain⟨k,hk,rfl,K,A⟩:=hrel
  have Q:=Hd K;have E:=Hd A;clear K A
  by_cases hlt:k < cs.length
  ·have b1:(k:Int) < (cs.length:Int):=vO
   rcases HU.o with⟨_,_,_,h0⟩ |⟨b,o,c1,hh,hb,hc,hcell⟩
   ·rw[h0]at hlt;cases hlt
   cases hh
   obtain⟨p,hp⟩:∃ p,cs[k]?=some p:=⟨_,bA hlt⟩
   obtain⟨X,Z,q3⟩:=hcell k p hp
   have H:=a6.o p (bE hp);have HP:=Hd hp;have a0:=Hd X;have a1:=Hd Z;have a2:=Hd q3;have X:=jaa X Q.o;have Z:=jaa Z Q.o;have q3:=jaa q3 Q.o
   obtain⟨ky,O,gn⟩:=p
   simp only at X Z q3 H a0 a1 a2;have m:=Hd (fun(h:Chg.bad ⟨ky,O,gn⟩=true)=>(show R=false by rw[HR.o,jqZ HP.o h];rfl));have a3:=Hd (fun(h:Chg.bad ⟨ky,O,gn⟩=false)=>(show (cs.take (k+1)).any Chg.bad=false by rw[jnW HP.o,E.o,h];rfl));clear hcell hp hb hc;go_wp2_with fail
   refine vH (jwd wr ky H.1) fun w3 K=>?_;have e:=Hd (Q.o.trans K);have X:=jaa a0.o e.o;have Z:=jaa a1.o e.o;have q3:=jaa a2.o e.o;cases hky:jcg ky with
   | false =>
    have J:=Hd (m.o (by unfold Chg.bad;simp[hky]));clear hky;go_wp2_with fail
    go_ret
    exact⟨by rw[J.o];rfl,e.o⟩
   | true =>
    cases gn with
    | true =>
     by_cases hz:O.size=0
     ·have:=jbj hz
      subst this;have HG:=Hd (a3.o (by unfold Chg.bad;simp[hky];rfl));clear hky hz;go_wp2_with fail
      go_roundw
      case rel=>exact⟨k+1,by omega,by go_num,e.o,HG.o⟩
      case measure=>exact vJ
     ·have a7:=jbe (s:=O) vO
      have J:=Hd (m.o (by unfold Chg.bad;simp[hky,hz]));clear hky hz;go_wp2_with fail
      go_ret
      exact⟨by rw[J.o];rfl,e.o⟩
    | false =>
     go_wp2_with fail
     refine vH (jpa w3 O H.2) fun w4 K=>?_;have a4:=Hd (e.o.trans K);cases hvl:jbR O with
     | true =>
      have HG:=Hd (a3.o (by unfold Chg.bad;simp[hky,hvl]));clear hky hvl;go_wp2_with fail
      go_roundw
      case rel=>exact⟨k+1,by omega,by go_num,a4.o,HG.o⟩
      case measure=>exact vJ
     | false =>
      have J:=Hd (m.o (by unfold Chg.bad;simp[hky,hvl]));clear hky hvl;go_wp2_with fail
      go_ret
      exact⟨by rw[J.o];rfl,a4.o⟩
  ·have a5:k=cs.length:=vO
   have b1:¬(k:Int) < (cs.length:Int):=vO
   have J:=Hd (show R=true by have h:=E.o;rw[a5,cE]at h;rw[HR.o,h];rfl);clear a5;go_wp2_with fail
   go_ret
   exact⟨by rw[J.o];rfl,Q.o⟩
def jfJ(c:Chg)(s:vL × Bool)(e:Pair):vL × Bool:=
 let put := !s.2 && !jch e.1 c.key
 ((if put then s.1++[(c.key,c.value)]else s.1)++(if (e.1.toList == c.key.toList)then []else [e]),s.2 || put)
def runO(c:Chg)(l:vL):vL × Bool:=l.foldl (jfJ c) ([],c.gone)
def oneL(l:vL)(c:Chg):vL:=if (runO c l).2 then (runO c l).1 else (runO c l).1++[(c.key,c.value)]
def insO(c:Chg):Bool->vL->vL
 | p,[]=>if p then []else [(c.key,c.value)]
 | p,e :: r=>(if !p && !jch e.1 c.key then [(c.key,c.value)]else [])++(if (e.1.toList == c.key.toList)then []else [e])++insO c (p ||(!p && !jch e.1 c.key)) r
theorem jte(c:Chg):∀ (l:vL) (o:vL) (p:Bool),(let s:=l.foldl (jfJ c) (o,p);if s.2 then s.1 else s.1++[(c.key,c.value)])=o++insO c p l
 | [],o,p=>by cases p <;> simp[insO]
 | e :: r,o,p=>by
  have m:∀ s:vL × Bool,(let s:=r.foldl (jfJ c) s;if s.2 then s.1 else s.1++[(c.key,c.value)])=s.1++insO c s.2 r:=fun s=>by
   obtain⟨x,y⟩:=s;exact jte c r x y
  refine (m (jfJ c (o,p) e)).trans ?_;rw[insO];unfold jfJ;simp only;cases h1:(!p && !jch e.1 c.key) <;> cases h2:(e.1.toList == c.key.toList) <;> simp
theorem jnt(l:vL)(c:Chg):oneL l c=insO c c.gone l:=by
 have:=jte c l [] c.gone
 rw[cM]at this;exact this
theorem keq(e:Pair)(c:Chg):(e.1.toList == c.key.toList)=decide (e.k=c.k):=by
 rw[bL,bL]
 by_cases h:e.k=c.k
 ·rw[decide_eq_true h];simpa using h
 ·rw[decide_eq_false h,dC];intro m;exact h (eq_of_beq m)
theorem jkx(c:Chg):∀ l:vL,insO c true l=l.filter fun e => !decide (e.k=c.k)
 | []=>rfl
 | e :: r=>by
  have m:insO c true (e :: r)=(if (e.1.toList == c.key.toList)then []else [e])++insO c true r:=by rw[insO];simp
  rw[m,keq,jkx c r,fZ]
  by_cases h:e.k=c.k <;> simp[h]
theorem jeK(c:Chg)(k:vN):∀ l:vL,look (l.filter fun e => !decide (e.k=c.k)) k=if k=c.k then none else look l k
 | []=>by rw[List.filter_nil,jgp];simp
 | e :: r=>by
  rw[fZ]
  by_cases h:e.k=c.k
  ·rw[if_neg (by simp[h]),jeK c k r,jaN]
   by_cases hk:k=c.k
   ·rw[if_pos hk,if_pos hk]
   ·rw[if_neg hk,if_neg hk,if_neg (by rw[h];exact hk)]
  ·rw[if_pos (by simp[h]),jaN,jaN,jeK c k r]
   by_cases hk:k=e.k
   ·rw[if_pos hk,if_pos hk,if_neg (by rw[hk];exact h)]
   ·rw[if_neg hk,if_neg hk]
theorem joD(e:Pair)(c:Chg):jch e.1 c.key=true↔Lt e.k c.k:=jdP _ _
theorem jox(c:Chg):∀ (l:vL) (p:Bool),∀ q∈insO c p l,q.k=c.k\/q∈l
 | [],p,q,h=>by
  unfold insO at h;cases p
  ·simp at h;subst h;exact .inl rfl
  ·simp at h
 | e :: r,p,q,h=>by
  rw[insO]at h;rcases bW.1 h with h | h
  ·rcases bW.1 h with h | h
   ·split at h
    ·simp at h;subst h;exact .inl rfl
    ·cases h
   ·split at h
    ·cases h
    ·simp at h;subst h;exact .inr bK
  ·exact (jox c r _ q h).imp id (bH _)
theorem jlT(c:Chg):∀ {l:vL},jfO l->jfO (insO c false l)/\∀ k,look (insO c false l) k=if k=c.k then some c.value else look l k
 | [],_=>by
  refine⟨by simp[insO,jfO],fun k=>?_⟩
  show look [(c.key,c.value)] k=_;rw[jaN]
 | e :: r,h=>by
  have K:=(dY.1 h).2;have J:=(dY.1 h).1;rw[insO,keq]
  by_cases hlt:Lt e.k c.k
  ·have hb:jch e.1 c.key=true:=(joD e c).2 hlt
   have o:¬ e.k=c.k:=fun x=>lt_irrefl _ (x ▸ hlt);rw[hb,decide_eq_false o]
   obtain⟨O,Q⟩:=jlT c K
   simp only[iR,iM,cI,if_false,cM,iQ]
   refine⟨dY.2 ⟨fun q H=>?_,O⟩,fun k=>?_⟩
   ·rcases jox c r false q H with m | A
    ·show Lt e.k q.k;rw[m];exact hlt
    ·exact J q A
   ·show look (e :: insO c false r) k=_
    rw[jaN,jaN,Q k]
    by_cases m:k=e.k
    ·rw[if_pos m,if_pos m,if_neg (by rw[m];exact o)]
    ·rw[if_neg m,if_neg m]
  ·have hb:jch e.1 c.key=false:=by rw[dC];exact fun x=>hlt ((joD e c).1 x)
   rw[hb];simp only[Bool.not_false,Bool.and_self,if_true,Bool.or_true];rw[jkx];have E:(if decide (e.k=c.k)=true then []else [e])++r.filter (fun e => !decide (e.k=c.k))=(e :: r).filter fun e => !decide (e.k=c.k):=by
    rw[fZ]
    by_cases m:e.k=c.k <;> simp[m]
   rw[cB,E]
   refine⟨dY.2 ⟨fun q H=>?_,h.sublist jF⟩,fun k=>?_⟩
   ·obtain⟨A,m⟩:=cU.1 H
    have m:¬ q.k=c.k:=by simpa using m
    show Lt c.k q.k;rcases jjJ c.k q.k with x | x | x
    ·exact x
    ·exact absurd x.symm m
    ·rcases bX.1 A with rfl | A
     ·exact absurd x hlt
     ·exact absurd (jdQ _ _ _ (J q A) x) hlt
   ·show look ((c.key,c.value) ::(e :: r).filter fun e => !decide (e.k=c.k)) k=_
    rw[jaN,jeK]
    by_cases m:k=c.k
    ·rw[if_pos m,if_pos (show k=Pair.k (c.key,c.value)from m)]
    ·rw[if_neg m,if_neg (show ¬ k=Pair.k (c.key,c.value)from m),if_neg m]
theorem jxs(l:vL)(c:Chg)(h:jfO l):jfO (oneL l c)/\∀ k,look (oneL l c) k=jfb k (look l k) c:=by
 rw[jnt];cases hg:c.gone with
 | true =>
  rw[jkx]
  refine⟨h.sublist jF,fun k=>?_⟩
  rw[jeK];unfold jfb;rw[hg];rfl
 | false =>
  obtain⟨e,m⟩:=jlT c h
  refine⟨e,fun k=>?_⟩
  rw[m];unfold jfb;rw[hg];rfl
theorem joP:∀ (cs:List Chg) (l:vL),jfO l->jfO (cs.foldl oneL l)/\∀ k,look (cs.foldl oneL l) k=cs.foldl (jfb k) (look l k)
 | [],l,h=>⟨h,fun _=>rfl⟩
 | c :: r,l,h=>by
  obtain⟨e,m⟩:=jxs l c h
  obtain⟨o,A⟩:=joP r _ e
  exact⟨o,fun k=>by rw[cN,cN,A,m]⟩
theorem jqc{l:vL}(h:jaD l=0)(cs:List Chg):cs.foldl oneL l=jb2 (jbX l cs):=by
 obtain⟨e,m⟩:=joP cs l (jaG h).rise
 refine jgC e (jf6 (jh7 _ _)) fun k=>?_;rw[m,jp4 h]
theorem jxt(l:vL)(c:Chg):(oneL l c).length<=l.length+1:=by
 have:∀ (l:vL) (p:Bool),(insO c p l).length<=l.length+(if p then 0 else 1):=fun l=>by
  induction l with
  | nil=>intro p;cases p <;> simp[insO]
  | cons e r ih =>
   intro p;rw[insO,bF,bF,bP]
   have:=ih (p ||(!p && !jch e.1 c.key))
   cases p <;> cases jch e.1 c.key <;> cases (e.1.toList == c.key.toList) <;> simp at * <;> omega
 rw[jnt]
 have:=this l c.gone
 split at this <;> omega
theorem joQ:∀ (cs:List Chg) (l:vL),(cs.foldl oneL l).length<=l.length+cs.length
 | [],l=>by simp
 | c :: r,l=>by
  rw[cN,bP]
  have:=joQ r (oneL l c)
  have:=jxt l c
  omega
theorem jsG{l:vL}{c:Chg}(h:jdH l)(hc:c.key.size<=9223372036854775807/\c.value.size<=9223372036854775807):jdH (oneL l c):=by
 rw[jnt]
 have:∀ (l:vL) (p:Bool),jdH l->jdH (insO c p l):=fun l=>by
  induction l with
  | nil =>
   intro p _ q m;unfold insO at m;cases p
   ·simp at m;subst m;exact hc
   ·simp at m
  | cons e r ih =>
   intro p o q m;rw[insO]at m;rcases bW.1 m with m | m
   ·rcases bW.1 m with m | m
    ·split at m
     ·simp at m;subst m;exact hc
     ·cases m
    ·split at m
     ·cases m
     ·simp at m;subst m;exact o _ bK
   ·exact ih _ (fun x A=>o x (bH _ A)) q m
 exact this l _ h
theorem jxP(c:Chg)(l:vL):(runO c l).1.length<=2 * l.length:=by
 have:∀ (l:vL) (s:vL × Bool),(l.foldl (jfJ c) s).1.length<=s.1.length+2 * l.length:=fun l=>by
  induction l with
  | nil=>intro s;simp
  | cons e r ih =>
   intro s;rw[cN,bP];have h:=ih (jfJ c s e);have m:(jfJ c s e).1.length<=s.1.length+2:=by
    unfold jfJ;simp only;rw[bF];split <;> split <;> simp <;> omega
   omega
 have:=this l ([],c.gone)
 rw[dD,cF]at this;exact this
theorem jvv{c:Chg}{l:vL}{i:Nat}{p:Pair}(h:l[i]?=some p):runO c (l.take (i+1))=jfJ c (runO c (l.take i)) p:=by
 unfold runO;rw[bS,h,dF];rfl
def jAg(w1:vW)(l:vL)(c:Chg)(ov pv iv:vV)(wr:vW):Prop:=∃ i:Nat,i<=l.length/\iv=.int .i64 i/\pv=.bool (runO c (l.take i)).2/\ERow w1 wr ov (runO c (l.take i)).1.length (runO c (l.take i)).1
theorem jzt(w:vW)(v:vV)(l:vL)(c:Chg)(hv:RdP w v l)(hn:l.length<=1000)(hs:jdH l)(hc:c.key.size<=9223372036854775807/\c.value.size<=9223372036854775807) :
  vQ 39 #[v,.agg #[.string c.key,.string c.value,.bool c.gone]] w fun e w'=>∃ r,e=.returned r/\ERow w w' r (oneL l c).length (oneL l c):=by
 have HV:=Hd hv;have HS:=Hd hs;have d3:=Hd hc
 obtain⟨a,c0,rfl⟩:=hv.sl;clear hv hs hc
 obtain⟨w1,b5⟩:=vE (w.alloc (.cells #[.string c.key,.string c.value,.bool c.gone] 55))
 obtain⟨bc,b8⟩:∃ b,b=w.heap.size:=⟨_,rfl⟩
 have b6:=Hd (show Blk w1 bc (.cells #[.string c.key,.string c.value,.bool c.gone] 55) by rw[b5,b8];exact Blk.new w _);have a3:=Hd (show Ext w w1 by rw[b5];exact (ExtR w).alloc _);have k2:=b6.o.cell (i:=2) (v:=.bool c.gone) vF;have d4:(runO c (l.take 0))=([],c.gone):=rfl;go_enter Tryz.func39,Tryz.ntmps39;go_wp2_with fail
 rw[<-b5, <-b8];clear b5 b8;go_wp2_with fail
 go_loopw [5,6,7] (fun ov pv iv wr=>jAg w1 l c ov pv iv wr) (fun _ _ iv _=>l.length - (intOf iv).toNat)
 case atStart=>exact⟨0,by omega,rfl,rfl,ORow.nil _ _ (ExtR w1)⟩
 case round =>
  obtain⟨i,hi,rfl,rfl,hR⟩:=hrel
  obtain⟨s,b9⟩:=vE (runO c (l.take i))
  have c3:=jxP c (l.take i);rw[cL]at c3;rw[<-b9]at hR c3 ⊢;have b3:=Hd b9
  obtain⟨o0,p0⟩:=s
  simp only at hR c3 ⊢
  obtain⟨a2,c2,rfl⟩:=hR.sl
  have HR:=Hd hR;have k0:=jaa (b6.o.cell (i:=0) (v:=.string c.key) vF) hR.ext;have k1:=jaa (b6.o.cell (i:=1) (v:=.string c.value) vF) hR.ext;clear b9 hR k2
  by_cases hlt:i < l.length
  ·have b1:(i:Int) < (l.length:Int):=vO
   rcases HV.o with⟨_,_,_,h0⟩ |⟨b,o,c1,hh,hb,hcc,hcell⟩
   ·rw[h0]at hlt;cases hlt
   cases hh
   obtain⟨p,hp⟩:∃ p,l[i]?=some p:=⟨_,bA hlt⟩
   obtain⟨O,Z⟩:=hcell i p hp
   have c4:=Hd (jaa O a3.o);have c7:=Hd (jaa Z a3.o);have d1:=(HS.o p (bE hp)).1;have a4:=Hd (jvv (c:=c) hp)
   obtain⟨x,y⟩:=p
   simp only at c4 c7 d1;have O:=jaa c4.o HR.o.ext;have Z:=jaa c7.o HR.o.ext;have a7:=Hd (show runO c (l.take i)=(o0,p0)from b3.o.symm);have b7:=Hd (fun w1=>jqP w1 x c.key d1 d3.o.1);clear hcell hp hb hcc;cases p0 with
   | true =>
    obtain⟨m,a0⟩:=vE o0
    subst a0;go_wp2_with fail
    refine jah [0,1,2,3,4,5,6,7,8,9,10,11,12] Ext ExtR ExtT vY vY vY ?_;iterate 3 refine vK ?_
    iterate 9 (refine qKS _ rfl ?_;refine vS ?_)
    refine vK ?_
    refine qKE (fun w3 Q=>?_);have J:=(jai _).trans Q;have a1:=Hd (HR.o.mono J);have O:=jaa O J;have Z:=jaa Z J;have k0:=jaa k0 J;clear Q J;cases hkk:(x.toList == c.key.toList)with
    | true =>
     have E:=Hd (show runO c (l.take (i+1))=(m,true) by rw[a4.o];unfold jfJ;simp only;rw[a7.o];simp only[iR,Bool.false_and,iQ,Bool.true_or,cI,if_false];rw[hkk];simp);go_wp2_with fail
     refine jah [0,1,2,3,4,5,6,7] Ext ExtR ExtT vY vY vY ?_;iterate 4 refine vK ?_
     refine qKL ⟨b,o+i * 2,none⟩ _ rfl (fun w1 K=>jab Tryz.uStr rfl (jaa O ((jai _).trans K))) ?_;refine vS ?_
     refine vK ?_
     refine qKL ⟨bc,0,none⟩ _ rfl (fun w1 K=>jab Tryz.uStr rfl (jaa k0 ((jai _).trans K))) ?_;refine vS ?_
     refine vK ?_
     refine qKE (fun w4 Q=>?_);have A:=(jai _).trans Q;have X:=Hd (a1.o.mono A);have O:=jaa O A;have Z:=jaa Z A;clear Q A;clear hkk;go_wp2_with fail
     go_roundw
     case rel=>exact⟨i+1,by omega,by go_num,by rw[E.o],by rw[E.o];exact X.o⟩
     case measure=>exact vJ
    | false =>
     have E:=Hd (show runO c (l.take (i+1))=(m++[(x,y)],true) by rw[a4.o];unfold jfJ;simp only;rw[a7.o];simp only[iR,Bool.false_and,iQ,Bool.true_or,cI,if_false];rw[hkk];simp);go_wp2_with fail
     refine jah [0,1,2,3,4,5,6,7] Ext ExtR ExtT vY vY vY ?_;iterate 4 refine vK ?_
     refine qKL ⟨b,o+i * 2,none⟩ _ rfl (fun w1 K=>jab Tryz.uStr rfl (jaa O ((jai _).trans K))) ?_;refine vS ?_
     refine vK ?_
     refine qKL ⟨bc,0,none⟩ _ rfl (fun w1 K=>jab Tryz.uStr rfl (jaa k0 ((jai _).trans K))) ?_;refine vS ?_
     refine vK ?_
     refine qKE (fun w4 Q=>?_);have A:=(jai _).trans Q;have X:=Hd (a1.o.mono A);have O:=jaa O A;have Z:=jaa Z A;clear Q A;clear hkk;have a9:m.length+1<=maxLen:=by unfold maxLen;omega
     have b0:(m.length+1) * 32<=140737488355328:=vO
     go_wp2_with (at_builtin;refine jaS Tryz.sEnts (X.o.mono ((ExtR w4).alloc _)) (.tmp 45) (.tmp 50) rfl rfl rfl (jaH (Blk.new w4 _)) (news:=[.string x,.string y]) (by intro u hu;simp at hu;rcases hu with rfl | rfl <;> rfl) rfl rfl a9 b0 ?_;intro v5 w5 r1 r2 r3)
     have H:ERow w1 w5 v5 (m++[(x,y)]).length (m++[(x,y)]):=by unfold ERow;rw[jbd,bF];exact r1
     obtain⟨a5,c5,rfl⟩:=H.sl
     have b2:=Hd H;clear r1 r2 r3 H;go_wp2_with fail
     go_roundw
     case rel=>exact⟨i+1,by omega,by go_num,by rw[E.o],by rw[E.o];exact b2.o⟩
     case measure=>exact vJ
   | false =>
    cases hls:jch x c.key with
    | true =>
     rw[hls]at b7
     obtain⟨m,a0⟩:=vE o0
     subst a0;go_wp2_with fail
     refine jah [0,1,2,3,4,5,6,7,8,9,10,11,12] Ext ExtR ExtT vY vY vY ?_;iterate 7 refine vK ?_
     refine qKL ⟨b,o+i * 2,none⟩ _ rfl (fun w1 K=>jab Tryz.uStr rfl (jaa O ((jai _).trans K))) ?_;refine vS ?_
     refine vK ?_
     refine qKL ⟨bc,0,none⟩ _ rfl (fun w1 K=>jab Tryz.uStr rfl (jaa k0 ((jai _).trans K))) ?_;refine vS ?_;refine qKC _ 75 #[.string x,.string c.key] (.bool true) rfl (fun w1=>jat (vX 75) vY) (fun w1 K=>b7.o w1) ?_;refine vS ?_;iterate 2 refine vK ?_
     refine qKE (fun w3 Q=>?_);have J:=(jai _).trans Q;have a1:=Hd (HR.o.mono J);have O:=jaa O J;have Z:=jaa Z J;have k0:=jaa k0 J;clear Q J;cases hkk:(x.toList == c.key.toList)with
     | true =>
      have E:=Hd (show runO c (l.take (i+1))=(m,false) by rw[a4.o];unfold jfJ;simp only;rw[a7.o];simp only[hls,iR,iM,iQ,cI,if_false];rw[hkk];simp);go_wp2_with fail
      refine jah [0,1,2,3,4,5,6,7] Ext ExtR ExtT vY vY vY ?_;iterate 4 refine vK ?_
      refine qKL ⟨b,o+i * 2,none⟩ _ rfl (fun w1 K=>jab Tryz.uStr rfl (jaa O ((jai _).trans K))) ?_;refine vS ?_
      refine vK ?_
      refine qKL ⟨bc,0,none⟩ _ rfl (fun w1 K=>jab Tryz.uStr rfl (jaa k0 ((jai _).trans K))) ?_;refine vS ?_
      refine vK ?_
      refine qKE (fun w4 Q=>?_);have A:=(jai _).trans Q;have X:=Hd (a1.o.mono A);have O:=jaa O A;have Z:=jaa Z A;clear Q A;clear hkk;go_wp2_with fail
      go_roundw
      case rel=>exact⟨i+1,by omega,by go_num,by rw[E.o],by rw[E.o];exact X.o⟩
      case measure=>exact vJ
     | false =>
      have E:=Hd (show runO c (l.take (i+1))=(m++[(x,y)],false) by rw[a4.o];unfold jfJ;simp only;rw[a7.o];simp only[hls,iR,iM,iQ,cI,if_false];rw[hkk];simp);go_wp2_with fail
      refine jah [0,1,2,3,4,5,6,7] Ext ExtR ExtT vY vY vY ?_;iterate 4 refine vK ?_
      refine qKL ⟨b,o+i * 2,none⟩ _ rfl (fun w1 K=>jab Tryz.uStr rfl (jaa O ((jai _).trans K))) ?_;refine vS ?_
      refine vK ?_
      refine qKL ⟨bc,0,none⟩ _ rfl (fun w1 K=>jab Tryz.uStr rfl (jaa k0 ((jai _).trans K))) ?_;refine vS ?_
      refine vK ?_
      refine qKE (fun w4 Q=>?_);have A:=(jai _).trans Q;have X:=Hd (a1.o.mono A);have O:=jaa O A;have Z:=jaa Z A;clear Q A;clear hkk;have a9:m.length+1<=maxLen:=by unfold maxLen;omega
      have b0:(m.length+1) * 32<=140737488355328:=vO
      go_wp2_with (at_builtin;refine jaS Tryz.sEnts (X.o.mono ((ExtR w4).alloc _)) (.tmp 45) (.tmp 50) rfl rfl rfl (jaH (Blk.new w4 _)) (news:=[.string x,.string y]) (by intro u hu;simp at hu;rcases hu with rfl | rfl <;> rfl) rfl rfl a9 b0 ?_;intro v5 w5 r1 r2 r3)
      have H:ERow w1 w5 v5 (m++[(x,y)]).length (m++[(x,y)]):=by unfold ERow;rw[jbd,bF];exact r1
      obtain⟨a5,c5,rfl⟩:=H.sl
      have b2:=Hd H;clear r1 r2 r3 H;go_wp2_with fail
      go_roundw
      case rel=>exact⟨i+1,by omega,by go_num,by rw[E.o],by rw[E.o];exact b2.o⟩
      case measure=>exact vJ
    | false =>
     rw[hls]at b7;go_wp2_with fail
     refine jah [0,1,2,3,4,5,6,7,8,9,10,11,12] Ext ExtR ExtT vY vY vY ?_;iterate 7 refine vK ?_
     refine qKL ⟨b,o+i * 2,none⟩ _ rfl (fun w1 K=>jab Tryz.uStr rfl (jaa O ((jai _).trans K))) ?_;refine vS ?_
     refine vK ?_
     refine qKL ⟨bc,0,none⟩ _ rfl (fun w1 K=>jab Tryz.uStr rfl (jaa k0 ((jai _).trans K))) ?_;refine vS ?_;refine qKC _ 75 #[.string x,.string c.key] (.bool false) rfl (fun w1=>jat (vX 75) vY) (fun w1 K=>b7.o w1) ?_;refine vS ?_;iterate 2 refine vK ?_
     refine qKE (fun w3 Q=>?_);have J:=(jai _).trans Q;have a1:=Hd (HR.o.mono J);have k0:=jaa k0 J;have k1:=jaa k1 J;clear Q J O Z;have c8:o0.length+1<=maxLen:=by unfold maxLen;omega
     have c9:(o0.length+1) * 32<=140737488355328:=vO
     go_wp2_with (at_builtin;refine jaS Tryz.sEnts (a1.o.mono ((ExtR w3).alloc _)) (.tmp 29) (.tmp 35) rfl rfl rfl (jaH (Blk.new w3 _)) (news:=[.string c.key,.string c.value]) (by intro u hu;simp at hu;rcases hu with rfl | rfl <;> rfl) rfl rfl c8 c9 ?_;intro v6 w6 r1 r2 r3)
     obtain⟨m,a0⟩:=vE (o0++[(c.key,c.value)])
     have d5:m.length=o0.length+1:=by rw[a0];simp
     have H:ERow w1 w6 v6 m.length m:=by unfold ERow;rw[a0,jbd,bF];exact r1
     have d2:Hid (o0++[(c.key,c.value)]=m):=a0.symm
     obtain⟨a6,c6,rfl⟩:=H.sl
     have a8:=Hd H;have O:=jaa c4.o H.ext;have Z:=jaa c7.o H.ext;have k0:=jaa (b6.o.cell (i:=0) (v:=.string c.key) vF) H.ext;clear r1 r2 r3 H k1 a0;have d6:m.length<=2 * i+1:=vO
     cases hkk:(x.toList == c.key.toList)with
     | true =>
      have E:=Hd (show runO c (l.take (i+1))=(m,true) by rw[a4.o];unfold jfJ;simp only;rw[a7.o];simp only[hls,Bool.not_false,Bool.and_self,Bool.or_true,Bool.false_or,if_true];rw[hkk];rw[d2.o];simp);go_wp2_with fail
      refine jah [0,1,2,3,4,5,6,7] Ext ExtR ExtT vY vY vY ?_;iterate 4 refine vK ?_
      refine qKL ⟨b,o+i * 2,none⟩ _ rfl (fun w1 K=>jab Tryz.uStr rfl (jaa O ((jai _).trans K))) ?_;refine vS ?_
      refine vK ?_
      refine qKL ⟨bc,0,none⟩ _ rfl (fun w1 K=>jab Tryz.uStr rfl (jaa k0 ((jai _).trans K))) ?_;refine vS ?_
      refine vK ?_
      refine qKE (fun w4 Q=>?_);have A:=(jai _).trans Q;have X:=Hd (a8.o.mono A);have O:=jaa O A;have Z:=jaa Z A;clear Q A;clear hkk;go_wp2_with fail
      go_roundw
      case rel=>exact⟨i+1,by omega,by go_num,by rw[E.o],by rw[E.o];exact X.o⟩
      case measure=>exact vJ
     | false =>
      have E:=Hd (show runO c (l.take (i+1))=(m++[(x,y)],true) by rw[a4.o];unfold jfJ;simp only;rw[a7.o];simp only[hls,Bool.not_false,Bool.and_self,Bool.or_true,Bool.false_or,if_true];rw[hkk];rw[d2.o];simp);go_wp2_with fail
      refine jah [0,1,2,3,4,5,6,7] Ext ExtR ExtT vY vY vY ?_;iterate 4 refine vK ?_
      refine qKL ⟨b,o+i * 2,none⟩ _ rfl (fun w1 K=>jab Tryz.uStr rfl (jaa O ((jai _).trans K))) ?_;refine vS ?_
      refine vK ?_
      refine qKL ⟨bc,0,none⟩ _ rfl (fun w1 K=>jab Tryz.uStr rfl (jaa k0 ((jai _).trans K))) ?_;refine vS ?_
      refine vK ?_
      refine qKE (fun w4 Q=>?_);have A:=(jai _).trans Q;have X:=Hd (a8.o.mono A);have O:=jaa O A;have Z:=jaa Z A;clear Q A;clear hkk;have a9:m.length+1<=maxLen:=by unfold maxLen;omega
      have b0:(m.length+1) * 32<=140737488355328:=vO
      go_wp2_with (at_builtin;refine jaS Tryz.sEnts (X.o.mono ((ExtR w4).alloc _)) (.tmp 45) (.tmp 50) rfl rfl rfl (jaH (Blk.new w4 _)) (news:=[.string x,.string y]) (by intro u hu;simp at hu;rcases hu with rfl | rfl <;> rfl) rfl rfl a9 b0 ?_;intro v5 w5 r1 r2 r3)
      have H:ERow w1 w5 v5 (m++[(x,y)]).length (m++[(x,y)]):=by unfold ERow;rw[jbd,bF];exact r1
      obtain⟨a5,c5,rfl⟩:=H.sl
      have b2:=Hd H;clear r1 r2 r3 H;go_wp2_with fail
      go_roundw
      case rel=>exact⟨i+1,by omega,by go_num,by rw[E.o],by rw[E.o];exact b2.o⟩
      case measure=>exact vJ
  ·have d0:i=l.length:=vO
   have b1:¬(i:Int) < (l.length:Int):=vO
   have b4:=Hd (show runO c l=(o0,p0) by have h:=b3.o;rw[d0,cE]at h;exact h.symm);cases p0 with
   | true =>
    have HF:=Hd (show oneL l c=o0 by unfold oneL;rw[b4.o];rfl);clear d0;go_wp2_with fail
    go_ret
    refine⟨_,rfl,?_⟩
    rw[HF.o]
    exact⟨⟨_,_,rfl⟩,HR.o.own,a3.o.trans HR.o.ext,fun b hb=>bG a3.o.size (HR.o.new b hb)⟩
   | false =>
    have HF:=Hd (show oneL l c=o0++[(c.key,c.value)] by unfold oneL;rw[b4.o];rfl);have c8:o0.length+1<=maxLen:=by unfold maxLen;omega
    have c9:(o0.length+1) * 32<=140737488355328:=vO
    clear d0;go_wp2_with (at_builtin;refine jaS Tryz.sEnts (HR.o.mono ((ExtR wr).alloc _)) (.tmp 54) (.tmp 60) rfl rfl rfl (jaH (Blk.new wr _)) (news:=[.string c.key,.string c.value]) (by intro u hu;simp at hu;rcases hu with rfl | rfl <;> rfl) rfl rfl c8 c9 ?_;intro v6 w6 r1 r2 r3)
    have H:ERow w1 w6 v6 (oneL l c).length (oneL l c):=by unfold ERow;rw[HF.o,jbd,bF];exact r1
    obtain⟨a6,c6,rfl⟩:=H.sl
    have a8:=Hd H;clear r1 r2 r3 H;go_wp2_with fail
    go_ret
    refine⟨_,rfl,?_⟩
    exact⟨⟨_,_,rfl⟩,a8.o.own,a3.o.trans a8.o.ext,fun b hb=>bG a3.o.size (a8.o.new b hb)⟩
def je2(w:vW)(l:vL)(cs:List Chg)(e:Ending)(w':vW):Prop:=
 Ext w w'/\if jaY l cs=0 then ∃ r,e=.returned (.tuple #[r,.int .i64 0])/\RdP w' r (jb2 (jbX l cs))else e=.returned (.tuple #[.slice none 0 0,.int .i64 (jaY l cs)])
theorem je2.bad{w w':vW}{l:vL}{cs:List Chg}{x:Int}(h:jaY l cs=x)(h0:x≠0)(he:Ext w w'):je2 w l cs (.returned (.tuple #[.slice none 0 0,.int .i64 x])) w':=by
 unfold je2;rw[h,if_neg h0];exact⟨he,rfl⟩
def jAn(w:vW)(l:vL)(cs:List Chg)(lv iv:vV)(wr:vW):Prop:=∃ i:Nat,i<=cs.length/\iv=.int .i64 i/\Ext w wr/\RdP wr lv ((cs.take i).foldl oneL l)
theorem jjM:∀ (cs:List Chg) (l:vL),jdH l->jjo cs->jdH (cs.foldl oneL l)
 | [],_,h,_=>h
 | c :: r,l,h,hc=>jjM r _ (jsG h (hc c bK)) fun x e=>hc x (bH _ e)
theorem joY(w:vW)(v u:vV)(l:vL)(cs:List Chg)(hv:RdP w v l)(hu:RdC w u cs)(hn:l.length<=45)(hnc:cs.length<=45)(hs:jdH l)(hsc:jjo cs) :
  vQ 12 #[v,u] w (je2 w l cs):=by
 have HV:=Hd hv;have HU:=Hd hu;have HS:=Hd hs;have K:=Hd hsc
 obtain⟨a,c,rfl⟩:=hv.sl
 obtain⟨a',c',Z⟩:=hu.sl
 subst Z;clear hv hu hs hsc;go_enter Tryz.func12,Tryz.ntmps12;go_wp2_with fail
 refine vH (jvi w _ l HV.o vO HS.o) fun w1 A=>?_
 by_cases hck:jaD l=0
 case neg =>
  obtain⟨x,hx⟩:=vE (jaD l)
  have O:=Hd (show jaY l cs=x by unfold jaY;rw[if_pos hck,hx]);rw[<-hx]at hck ⊢;have b6:(x == 0)=false:=by simpa using hck
  have b5:(x != 0)=true:=by simpa using hck
  have Q:=Hd hck;clear hck hx;go_wp2_with fail
  go_ret2;exact je2.bad O.o Q.o A.o
 rw[hck];have E:=Hd hck;clear hck;go_wp2_with fail
 refine vH (jxL w1 _ cs (HU.o.ext A.o) vO K.o) fun w2 hE=>?_;have m:=Hd (A.o.trans hE);clear A;cases hbd:cs.any Chg.bad with
 | true =>
  have O:=Hd (show jaY l cs=1 by unfold jaY;rw[if_neg (by rw[E.o];simp),if_pos hbd]);clear hbd;go_wp2_with fail
  go_ret2;exact je2.bad O.o vI m.o
 | false =>
  have a1:=Hd hbd;clear hbd;go_wp2_with fail
  go_loopw [0,7] (fun lv iv wr=>jAn w2 l cs lv iv wr) (fun _ iv _=>cs.length - (intOf iv).toNat)
  case atStart=>exact⟨0,by omega,rfl,ExtR w2,HV.o.ext m.o⟩
  case round =>
   obtain⟨i,hi,rfl,hE,H⟩:=hrel
   obtain⟨L,hL⟩:=vE ((cs.take i).foldl oneL l)
   rw[<-hL]at H
   obtain⟨a2,c2,rfl⟩:=H.sl
   have Q:=Hd hE;have HR:=Hd H;have a3:=Hd hL;have a7:=joQ (cs.take i) l;rw[cL, <-hL]at a7;have a8:=Hd (show jdH L by rw[hL];exact jjM _ _ HS.o fun x hx=>K.o x (gC hx));clear hE H hL
   by_cases hlt:i < cs.length
   ·have b1:(i:Int) < (cs.length:Int):=vO
    rcases HU.o with⟨_,_,_,h0⟩ |⟨b,o,c1,hh,hb,hcc,hcell⟩
    ·rw[h0]at hlt;cases hlt
    cases hh
    obtain⟨p,hp⟩:∃ p,cs[i]?=some p:=⟨_,bA hlt⟩
    obtain⟨q1,q2,q3⟩:=hcell i p hp
    have q1:=jaa q1 (m.o.trans Q.o);have q2:=jaa q2 (m.o.trans Q.o);have q3:=jaa q3 (m.o.trans Q.o);have a9:=Hd (K.o p (bE hp));have b0:=Hd (show (cs.take (i+1)).foldl oneL l=oneL L p by rw[bS,hp,dF, <-a3.o];rfl);clear hcell hp hb hcc;go_wp2_with fail
    refine (jzt wr _ L p HR.o vO a8.o a9.o).mono ?_;rintro e w4 ⟨r4,rfl,H⟩;have a5:=H.ext;have b3:=Hd (ERow.rd H)
    obtain⟨a4,c4,rfl⟩:=H.sl
    have b4:=Hd (Q.o.trans a5);clear H a5 q1 q2 q3;go_wp2_with fail
    go_roundw
    case rel=>exact⟨i+1,by omega,by go_num,b4.o,by rw[b0.o];exact b3.o⟩
    case measure=>exact vJ
   ·have b1:¬(i:Int) < (cs.length:Int):=vO
    have X:L=jb2 (jbX l cs):=by rw[a3.o,bQ vO,jqc E.o]
    have J:L.length=(jbX l cs).length:=by rw[X,jmD]
    have a0:=Hd X;have a6:=Hd (m.o.trans Q.o);clear X
    by_cases h40:40 < L.length
    ·have b2:(40:Int) < (L.length:Int):=vO
     have O:=Hd (show jaY l cs=12 by unfold jaY;rw[if_neg (by rw[E.o];simp),if_neg (by rw[a1.o];simp),if_pos vO]);clear J;go_wp2_with fail
     go_ret2;exact je2.bad O.o vI a6.o
    ·have b2:¬(40:Int) < (L.length:Int):=vO
     have O:=Hd (show jaY l cs=0 by unfold jaY;rw[if_neg (by rw[E.o];simp),if_neg (by rw[a1.o];simp),if_neg vO]);clear J;go_wp2_with fail
     go_ret2;unfold je2;rw[if_pos O.o]
     exact⟨a6.o,_,rfl,by rw[<-a0.o];exact HR.o⟩
abbrev Key:=vN
abbrev EntK:=Ent Key
def kvE(x:EntK):Key × vV:=(x.1,x.2.1)
def getV(m:List (Key × vV))(k:Key):Option vV:=(m.find? fun x=>decide (k=x.1)).map (·.2)
def putV:List (Key × vV)->Key->vV->List (Key × vV)
 | [],k,v=>[(k,v)]
 | x :: r,k,v=>if k=x.1 then (k,v) :: r else x :: putV r k v
structure MapV(es:List EntK)(ck:Nat)(m:List (Key × Value)):Prop where
 same:es.map kvE=m
 born:(es.map (·.2.2)).Nodup
 lt:∀ x∈es,x.2.2 < ck
 keys:(m.map (·.1)).Nodup
theorem MapV.nil(ck:Nat):MapV [] ck []:=⟨rfl,by simp,by simp,by simp⟩
theorem MapV.len{es:List EntK}{ck:Nat}{m:List (Key × vV)}(h:MapV es ck m):es.length=m.length:=by rw[<-h.same];simp
theorem jv5(k:Key):∀ es:List EntK,ja3 es k=getV (es.map kvE) k
 | []=>rfl
 | x :: r=>by
  have e:=jv5 k r;unfold getV ja3 at *;rw[bT,fU,fU]
  by_cases h:k=x.1
  ·simp[h,kvE]
  ·simp[h,kvE]at e ⊢;exact e
theorem MapV.get{es:List EntK}{ck:Nat}{m:List (Key × vV)}(h:MapV es ck m)(k:Key):ja3 es k=getV m k:=by rw[jv5,h.same]
theorem jsT(k:Key)(v:vV)(n:Nat):∀ es:List EntK,(jbt es k v n).map kvE=putV (es.map kvE) k v
 | []=>rfl
 | x :: r=>by
  unfold jbt;rw[bT,putV]
  by_cases h:k=x.1
  ·rw[if_pos h,if_pos (show k=(kvE x).1 from h),bT];rfl
  ·rw[if_neg h,if_neg (show ¬ k=(kvE x).1 from h),bT,jsT k v n r]
theorem jlN(x:EntK)(r:List EntK)(k:Key):ja3 (x :: r) k=if k=x.1 then some x.2.1 else ja3 r k:=by
 by_cases h:k=x.1 <;> simp[ja3,h]
theorem jmd(k:Key)(v:vV)(n:Nat):∀ es:List EntK,(jbt es k v n).map (·.2.2)=if (ja3 es k).isSome then es.map (·.2.2)else es.map (·.2.2)++[n]
 | []=>rfl
 | x :: r=>by
  unfold jbt;rw[jlN]
  by_cases h:k=x.1
  ·rw[if_pos h,if_pos h];simp
  ·rw[if_neg h,if_neg h,bT,jmd k v n r]
   cases (ja3 r k).isSome <;> simp
theorem jmf(k:Key)(v:vV):∀ m:List (Key × vV),(putV m k v).map (·.1)=if k∈m.map (·.1)then m.map (·.1)else m.map (·.1)++[k]
 | []=>rfl
 | x :: r=>by
  rw[putV]
  by_cases h:k=x.1
  ·rw[if_pos h,if_pos (by simp[h])];simp[h]
  ·rw[if_neg h,bT,jmf k v r]
   by_cases h2:k∈r.map (·.1)
   ·rw[if_pos h2,if_pos (by rw[bT];exact bH _ h2)];rfl
   ·rw[if_neg h2,if_neg (by rw[bT,bX];exact fun e=>e.elim h h2)];rfl
theorem MapV.put{es:List EntK}{ck:Nat}{m:List (Key × vV)}(h:MapV es ck m)(k:Key)(v:vV):MapV (jbt es k v ck) (if (ja3 es k).isSome then ck else ck+1) (putV m k v):=by
 have hb:=jmd k v ck es
 refine⟨by rw[jsT,h.same],?_,?_,?_⟩
 ·rw[hb]
  split
  ·exact h.born
  ·rw[fS]
   refine⟨h.born,by simp,fun a A b hb e=>?_⟩
   obtain⟨x,E,J⟩:=bI.1 A
   have:=h.lt x E
   simp at hb;omega
 ·intro x E
  have o:x.2.2∈(jbt es k v ck).map (·.2.2):=bI.2 ⟨x,E,rfl⟩;rw[hb]at o;split at o
  ·rename_i hs
   rw[if_pos hs]
   obtain⟨y,H,e⟩:=bI.1 o
   rw[<-e];exact h.lt y H
  ·rename_i hs
   rw[if_neg hs];rcases bW.1 o with o | o
   ·obtain⟨y,H,e⟩:=bI.1 o
    have:=h.lt y H;omega
   ·simp at o;omega
 ·rw[jmf]
  split
  ·exact h.keys
  ·rename_i hn
   rw[fS]
   exact⟨h.keys,by simp,fun a A b hb e=>by simp at hb;subst hb;subst e;exact hn A⟩
structure It where
 text:vB
 refs:vM
 used:Int
 held:Int
abbrev Nd5:=Key × Nat × It
abbrev vT:=List Nd5
theorem Tryz.uMapIt:Tryz.prog.underlying 71=some (.map 9 77):=vY
theorem Tryz.zeroIt(w:vW):(zeroValue 77).run Tryz.prog w=.ok (.pointer none) w:=vY
structure jeR(W:World)(b:Nat)(it:It):Prop where
 cells:∃ rv,Blk W b (.cells #[.string it.text,rv,.int .i64 it.used,.int .i64 it.held] 81)/\W.ownsRow 0 9 1 rv it.refs.length (it.refs.map Value.string)
def jjf(W:vW)(F:BSet):Prop:=∀ b cur fz,F b->¬ Blk W b (.cells cur 9 fz)
theorem jjf.none(W:vW):jjf W (fun _=>False):=fun _ _ _ h=>h.elim
theorem jgD{W W':vW}{F:BSet}{v:vV}{n:Nat}{xs:List vV}(h:W.ownsRow 0 9 1 v n xs)(k:jae F W W')(hF:jjf W F):W'.ownsRow 0 9 1 v n xs:=by
 refine ja2 h k fun b hb A=>?_
 obtain⟨_,⟨m,_⟩ |⟨g,E,o,m,_,H,_⟩⟩:=h
 ·rw[m]at hb;cases hb
 ·rw[m]at hb
  have e:some g=some b:=hb;obtain rfl:=bN e;exact hF g o (0,0) A H
theorem jeR.keeps{W W':vW}{F:BSet}{b:Nat}{it:It}(h:jeR W b it)(k:jae F W W')(hb:¬ F b)(hF:jjf W F):jeR W' b it:=by
 obtain⟨e,m,o⟩:=h.cells
 exact⟨e,m.keeps k hb,jgD o k hF⟩
theorem jeR.lt{W:vW}{b:Nat}{it:It}(h:jeR W b it):b < W.heap.size:=by obtain⟨m,e,_⟩:=h.cells;exact e.lt
def kvN(x:Nd5):Key × vV:=(x.1,.pointer (some ⟨x.2.1,0,none⟩))
structure jdn(W:World)(bm:Nat)(L:vT):Prop where
 mp:∃ es ck,Blk W bm (.map (Tryz.ES.arr es) ck)/\MapV es ck (L.map kvN)
 blks:(L.map (·.2.1)).Nodup
 items:∀ x∈L,jeR W x.2.1 x.2.2
theorem jdn.keeps{W W':vW}{F:BSet}{bm:Nat}{L:vT}(h:jdn W bm L)(k:jae F W W')(hm:¬ F bm)(hL:∀ x∈L,¬ F x.2.1)(hF:jjf W F):jdn W' bm L:=by
 obtain⟨m,o,A,E⟩:=h.mp
 exact⟨⟨m,o,A.keeps k hm,E⟩,h.blks,fun x e=>(h.items x e).keeps k (hL x e) hF⟩
theorem jdn.ext{W W':vW}{bm:Nat}{L:vT}(h:jdn W bm L)(k:Ext W W'):jdn W' bm L:=h.keeps k (fun h=>h) (fun _ _ h=>h) (jjf.none W)
def atL(L:vT)(k:Key):Option Nd5:=L.find? fun x=>decide (k=x.1)
theorem jrP(k:Key):∀ L:vT,getV (L.map kvN) k=(atL L k).map fun x=>.pointer (some ⟨x.2.1,0,none⟩)
 | []=>rfl
 | x :: r=>by
  have e:=jrP k r;unfold getV atL at *;rw[bT,fU,fU]
  by_cases h:k=x.1
  ·simp[h,kvN]
  ·simp[h,kvN]at e ⊢;exact e
theorem ja7{L:vT}{k:Key}{x:Nd5}(h:atL L k=some x):x∈L/\x.1=k:=by
 unfold atL at h;have e:=List.find?_some h
 exact⟨List.mem_of_find?_eq_some h,(of_decide_eq_true e).symm⟩
def ptrO(o:Option Nd5):vV:=match o with | some x=>.pointer (some ⟨x.2.1,0,none⟩) | none=>.pointer none
theorem jdn.look{W:vW}{bm:Nat}{L:vT}(h:jdn W bm L)(k:vB)(ok:Bool) :
  (Instr.lookup 71 (.map (some bm)) (.string k) ok).run Tryz.prog W=.ok (if ok then .tuple #[ptrO (atL L k.data.toList),.bool (atL L k.data.toList).isSome]else ptrO (atL L k.data.toList)) W:=by
 obtain⟨o,A,e,m⟩:=h.mp
 have:=jcT Tryz.ES Tryz.uMapIt e (Tryz.zeroIt W) k.data.toList ok
 rw[m.get,jrP]at this;cases ha:atL L k.data.toList with
 | none=>rw[ha]at this;exact this
 | some x=>rw[ha]at this;exact this
structure jaT(W:World)(s bm:Nat)(room:Int)(L:vT):Prop where
 st:Blk W s (.cells #[.int .i64 room,.map (some bm)] 79)
 mp:jdn W bm L
theorem jaT.ext{W W':vW}{s bm:Nat}{room:Int}{L:vT}(h:jaT W s bm room L)(k:Ext W W'):jaT W' s bm room L:=⟨h.st.keeps k (fun h=>h),h.mp.ext k⟩
theorem ji8(w:vW)(s bm:Nat)(room:Int)(L:vT)(k:vB)(h:jaT w s bm room L):vR 11 #[.pointer (some ⟨s,0,none⟩),.string k] w (optV ((atL L k.data.toList).map (·.2.2.text))):=by
 have E:=h.st.cell (i:=1) (v:=.map (some bm)) vF;have e:=h.mp.look k true;have A:=Hd h.mp.items;simp only[if_true]at e;clear h;cases ha:atL L k.data.toList with
 | none =>
  rw[ha]at e;unfold ptrO at e;simp only[Option.isSome]at e;clear ha;go_enter Tryz.func11,Tryz.ntmps11;go_wp2_with fail
  go_ret2
  exact⟨rfl,ExtR w⟩
 | some x =>
  rw[ha]at e
  obtain⟨H,m,_⟩:=(A.o x (ja7 ha).1).cells
  have J:=m.cell (i:=0) (v:=.string x.2.2.text) vF;unfold ptrO at e;simp only[Option.isSome]at e;clear ha m;go_enter Tryz.func11,Tryz.ntmps11;go_wp2_with fail
  go_ret2
  exact⟨rfl,ExtR w⟩
def jnm(o:Option Nd5):Int:=match o with | some x=>x.2.2.held | none=>0
section
attribute [local go_sem] Oper.semAt_some
theorem Tryz.infoS1:(Tryz.prog.info? 9).map (fun i=>(i.zero,i.size,i.bytes))=some (some (.string ⟨#[]⟩),1,16):=vY
theorem MapV.lenL{es:List EntK}{ck:Nat}{L:vT}(h:MapV es ck (L.map kvN)):es.length=L.length:=by rw[h.len];simp
theorem jxX(w:vW)(s bm:Nat)(room:Int)(L:vT)(h:jaT w s bm room L)(h0:0<=room)(e:room<=9223372036854775807)(hl:L.length<=1000000):vR 35 #[.pointer (some ⟨s,0,none⟩)] w (.int .i64 (room - L.length)):=by
 have Q:=Hd (h.st.cell (i:=1) (v:=.map (some bm)) vF);have X:=Hd (h.st.cell (i:=0) (v:=.int .i64 room) vF)
 obtain⟨J,ck,K,m⟩:=h.mp.mp
 have Z:=Hd K
 obtain⟨n,E⟩:=vE L.length
 have A:J.length=n:=by rw[m.lenL,E]
 have H:=Hd A;rw[<-E]at hl ⊢;clear h K m A E;go_enter Tryz.func35,Tryz.ntmps35;go_wp2_with fail
 refine jah [0,1,2,3,4,5,6,7,8,9,10] Ext ExtR ExtT vY vY vY ?_
 refine vK ?_
 refine jcr _ (.pointer (some ⟨s,0,none⟩)) rfl vY rfl (fun w1 _=>by kernel_rfl) ?_;refine vS ?_
 refine vK ?_
 refine qKL ⟨s,0,none⟩ _ rfl (fun w1 e=>jab Tryz.underlying3 rfl (jaa X.o ((jai _).trans e))) ?_;refine vS ?_
 refine vK ?_
 refine jcr _ (.pointer (some ⟨s,0,none⟩)) rfl vY rfl (fun w1 _=>by kernel_rfl) ?_;refine vS ?_
 refine vK ?_
 refine qKL ⟨s,1,none⟩ _ rfl (fun w1 e=>jab Tryz.underlying71 rfl (jaa Q.o ((jai _).trans e))) ?_;refine vS ?_;refine jcr _ (.int .i64 J.length) rfl vY rfl (fun w1 e=>by
  have hx:=jf5 Tryz.ES Tryz.uMapIt (Z.o.keeps ((jai _).trans e) (fun h=>h)) 3;simp[execOp,Act.eval,resolve,invoke,builtin,hx,cA,Result.andThen,cR]) ?_
 refine vS ?_;rw[H.o];iterate 2 refine vK ?_
 refine qKE (fun w3 O=>?_);have HE:=Hd ((jai _).trans O);clear O;go_wp2_with fail
 go_ret
 exact⟨rfl,HE.o⟩
theorem Tryz.makeMapIt(W:vW):(Instr.makeMap 71 none).run Tryz.prog W=.ok (.map (some W.heap.size)) (W.alloc (.map #[] 0)):=vY
theorem jtk(w:vW)(room:Int):vQ 22 #[.int .i64 room] w fun e w'=>∃ s bm,e=.returned (.pointer (some ⟨s,0,none⟩))/\Ext w w'/\jaT w' s bm (max room 0) []/\w.heap.size<=bm/\w.heap.size<=s/\s≠bm:=by
 have m:=Tryz.makeMapIt;go_enter Tryz.func22,Tryz.ntmps22;go_wp2_with fail
 go_ret
 refine⟨_,_,rfl,((ExtR w).alloc _).alloc _,⟨?_,⟨[],0,?_,MapV.nil 0⟩,by simp,fun x o=>by cases o⟩,bM _,Nat.le_succ _,by omega⟩
 ·exact (by simpa using Blk.new (w.alloc (.map #[] 0)) (.cells #[.int .i64 (max room 0),.map (some w.heap.size)] 79))
 ·exact (Blk.new w (.map #[] 0)).alloc _
def slN(v:vV):Nat:=match v with | .slice _ n _=>n | _=>0
def jka(s:List EntK):Array Nat:=(s.map (·.2.2)).toArray
def keyS(s:List EntK):List vV:=(s.map (·.1)).map encStr
structure HaS(w:World)(r bm ck:Nat)(es s:List EntK)(v:Value)(W:World):Prop where
 row:ORow 9 1 w W v s.length (keyS s)
 it:Blk W r (.mapIter (some bm) ck (jka s) ck)
 sub:∀ x∈s,x∈es
 nd:(s.map (·.2.2)).Nodup
 ne:∀ b,v.ownBlock=some b->b≠r
theorem jgx{α β:Type}(f:α->β):∀ {l:List α},(l.map f).Nodup->l.Nodup
 | [],_=>List.nodup_nil
 | x :: r,h=>by
  rw[bT,fI]at h;exact fI.2 ⟨fun e=>h.1 (bI.2 ⟨x,e,rfl⟩),jgx f h.2⟩
theorem HaS.len{w:vW}{r bm ck:Nat}{es s:List EntK}{v:vV}{W:vW}(h:HaS w r bm ck es s v W):s.length<=es.length:=
 iB (jgx _ h.nd) (fun x e=>h.sub x e)
theorem HaS.done{w:vW}{r bm ck:Nat}{es s:List EntK}{v:vV}{W:vW}(h:HaS w r bm ck es s v W)(h0:ja1 es (jka s)=[])(hb:(es.map (·.2.2)).Nodup):s.Perm es:=by
 refine (List.perm_ext_iff_of_nodup (jgx _ h.nd) (jgx _ hb)).2 fun x=>⟨fun m=>h.sub x m,fun m=>?_⟩
 by_cases hc:x.2.2∈s.map (·.2.2)
 ·obtain⟨y,o,e⟩:=bI.1 hc
  have:y=x:=jbq hb (h.sub y o) m e
  exact this ▸ o
 ·have:x∈ja1 es (jka s):=cU.2 ⟨m,by unfold jka;simpa using hc⟩
  rw[h0]at this;cases this
theorem MapV.keysL{es:List EntK}{ck:Nat}{L:vT}(h:MapV es ck (L.map kvN)):es.map (·.1)=L.map (·.1):=by
 have:=congrArg (List.map Prod.fst) h.same
 rw[dO,dO]at this;exact this
def jAb(w:vW)(r bm ck:Nat)(es:List EntK)(v:vV)(W:vW):Prop:=∃ s,HaS w r bm ck es s v W
end
noncomputable def itOf(t:vB):It:=⟨t,jaZ (nodeOf t),0,0⟩
noncomputable def ky(t:vB):Key:=(shaB t).data.toList
noncomputable def addG(m:List (Key × It))(t:vB):List (Key × It):=if m.any (fun x=>decide (ky t=x.1))then m else m++[(ky t,itOf t)]
noncomputable def readG(L:vM):List (Key × It):=L.foldl addG []
def kvI(x:Nd5):Key × It:=(x.1,x.2.2)
theorem jj7{L:vT}{k:Key}:atL L k=none↔∀ x∈L,k≠x.1:=by
 unfold atL;rw[List.find?_eq_none];simp
theorem jwI{L:vT}{k:Key}:(L.map kvI).any (fun x=>decide (k=x.1))=(atL L k).isSome:=by
 rw[List.any_map];unfold atL;rw[List.isSome_find?];rfl
theorem jiq(k:Key)(v:vV)(n:Nat):∀ es:List EntK,ja3 es k=none->jbt es k v n=es++[(k,v,n)]
 | [],_=>rfl
 | x :: r,h=>by
  rw[jlN]at h;unfold jbt
  by_cases hk:k=x.1
  ·rw[if_pos hk]at h;cases h
  ·rw[if_neg hk]at h ⊢
   rw[jiq k v n r h];rfl
theorem jdn.put{W:vW}{bm:Nat}{L:vT}(h:jdn W bm L)(k:vB)(hk:atL L k.data.toList=none){b:Nat}{it:It}(hb:jeR W b it)(hn:∀ x∈L,x.2.1≠b) :
  ∃ o,(Instr.mapUpdate 71 (.map (some bm)) (.string k) (.pointer (some ⟨b,0,none⟩))).run Tryz.prog W=.ok () (W.putObj bm o)/\jdn (W.putObj bm o) bm (L++[(k.data.toList,b,it)]):=by
 obtain⟨X,K,H,O⟩:=h.mp
 have Z:ja3 X k.data.toList=none:=by rw[O.get,jrP,hk];rfl
 have A:=jcs Tryz.ES Tryz.uMapIt H k.data.toList (.pointer (some ⟨b,0,none⟩));have Q:=O.put k.data.toList (.pointer (some ⟨b,0,none⟩));rw[Z]at A Q;simp only[Option.isSome_none,cI,if_false]at A Q;have hK:jae (fun z=>z=bm) W (W.putObj bm (.map (Tryz.ES.arr (jbt X k.data.toList (.pointer (some ⟨b,0,none⟩)) K)) (K+1))):=jae.onePut W bm _;have hN:jjf W (fun z=>z=bm):=fun z a0 fz e hz=>by
  have e:z=bm:=e;subst e
  have:=H.uniq hz;cases this
 have E:∀ {c:Nat} {i:It},jeR W c i->¬ c=bm:=fun hi e=>by
  obtain⟨_,J,_⟩:=hi.cells
  subst e
  have:=H.uniq J;cases this
 refine⟨_,A,⟨_,_,H.put_same _,?_⟩,?_,?_⟩
 ·have e:putV (L.map kvN) k.data.toList (.pointer (some ⟨b,0,none⟩))=(L++[(k.data.toList,b,it)]).map kvN:=by
   rw[bZ, <-O.same, <-jsT,jiq _ _ K _ Z,bZ];rfl
  rw[<-e];exact Q
 ·rw[bZ,fS]
  exact⟨h.blks,by simp,fun a ha c J e=>by
   simp at J;subst J;subst e
   obtain⟨x,m,e⟩:=bI.1 ha
   exact hn x m e⟩
 ·intro x m
  rcases bW.1 m with m | m
  ·exact (h.items x m).keeps hK (E (h.items x m)) hN
  ·simp only[cG]at m
   subst m;exact hb.keeps hK (E hb) hN
structure ReS(w:World)(bg:Nat)(G:vT)(T:vM)(W:World):Prop where
 ext:Ext w W
 at':jdn W bg G
 is:G.map kvI=readG T
 new:w.heap.size<=bg
 news:∀ x∈G,w.heap.size<=x.2.1
theorem ReS.keeps{w:vW}{bg:Nat}{G:vT}{T:vM}{W W':vW}(h:ReS w bg G T W)(e:Ext W W'):ReS w bg G T W':=⟨h.ext.trans e,h.at'.ext e,h.is,h.new,h.news⟩
theorem jqg{L:vM}{i:Nat}{t:vB}(h:L[i]?=some t):readG (L.take (i+1))=addG (readG (L.take i)) t:=by
 unfold readG;rw[bS,h,dF];rfl
section
attribute [local go_sem] Oper.semAt_some
def frK(S:vT)(M:vM):vM:=(jaU M).filter fun y=>(atL S y.data.toList).isNone
structure Meet(w0:World)(s:Nat)(S:vT)(bg b:Nat)(M:vM)(W:World):Prop where
 ext:Ext w0 W
 lo:w0.heap.size<=b
 c3:Blk W b (.cells #[.pointer (some ⟨s,0,none⟩)] 25)
 c5:Blk W (b+1) (.cells #[.map (some bg)] 71)
 c9:Blk W (b+4) (.cells #[.map (some (b+3))] 63)
 tab:∃ es ck,Blk W (b+3) (.map (Tryz.ES.arr es) ck)/\∀ y:vB,ja3 es y.data.toList=cntV (cntB M y)
 var:∃ v n,Blk W (b+2) (.cells #[v] 30)/\W.ownsRow 0 9 1 v n ((frK S M).map Value.string)/\n<=M.length/\∀ z,v.ownBlock=some z->b+5<=z
theorem Meet.keeps{w0:vW}{s:Nat}{S:vT}{bg b:Nat}{M:vM}{W W':vW}(h:Meet w0 s S bg b M W)(e:Ext W W'):Meet w0 s S bg b M W':=by
 obtain⟨m,o,A,E⟩:=h.tab
 obtain⟨v,n,H,J,K,O⟩:=h.var
 exact⟨h.ext.trans e,h.lo,h.c3.keeps e (fun g=>g),h.c5.keeps e (fun g=>g),h.c9.keeps e (fun g=>g),⟨m,o,A.keeps e (fun g=>g),E⟩,v,n,H.keeps e (fun g=>g),jbl J e,K,O⟩
theorem jon(S:vT)(M:vM)(x:vB):frK S (M++[x])=if memB (jaU M) x=true then frK S M else if (atL S x.data.toList).isNone then frK S M++[x]else frK S M:=by
 unfold frK;rw[jfX];unfold addF;split
 ·rfl
 ·rw[gS]
  split
  ·rename_i h;rw[List.filter_cons_of_pos (by simpa using h)];rfl
  ·rename_i h;rw[List.filter_cons_of_neg (by simpa using h)];simp
theorem jrn(M:vM)(x y:vB):cntB (M++[x]) y=cntB M y+(if x.data.toList=y.data.toList then 1 else 0):=by
 unfold cntB;rw[bZ,List.count_append,bT,gN,List.count_singleton]
 simp
def jbZ(G:vT)(x:vB):vM:=match atL G x.data.toList with | some y=>y.2.2.refs | none=>[]
theorem jfE{G:vT}{x:vB}{y:Nd5}(h:atL G x.data.toList=some y):jbZ G x=y.2.2.refs:=by unfold jbZ;rw[h]
theorem jlL(S:vT)(M:vM):(frK S M).Nodup:=(jhy M).sublist jF
theorem jfY{S:vT}{M:vM}{x:vB}:x∈frK S M↔x∈M/\atL S x.data.toList=none:=by
 unfold frK;rw[cU,jbb];simp
theorem jmX{x y:vB}(h:x.data.toList=y.data.toList):x=y:=ByteArray.ext (Array.ext' h)
theorem jom(S:vT)(M:vM):∀ T:vM,∃ X,frK S (M++T)=frK S M++X
 | []=>⟨[],by simp⟩
 | x :: T=>by
  obtain⟨X,m⟩:=jom S (M++[x]) T
  have e:M++x :: T=M++[x]++T:=by simp
  rw[e,m,jon];split
  ·exact⟨X,rfl⟩
  ·split
   ·exact⟨x :: X,by simp⟩
   ·exact⟨X,rfl⟩
theorem jsh(w0:vW)(s:Nat)(S:vT)(bg:Nat):Meet w0 s S bg w0.heap.size [] (((((w0.alloc (.cells #[.pointer (some ⟨s,0,none⟩)] 25)).alloc (.cells #[.map (some bg)] 71)).alloc (.cells #[.slice none 0 0] 30)).alloc (.map #[] 0)).alloc (.cells #[.map (some (w0.heap.size+3))] 63)):=by
 obtain⟨e,H⟩:=vE (w0.alloc (.cells #[.pointer (some ⟨s,0,none⟩)] 25))
 obtain⟨m,J⟩:=vE (e.alloc (.cells #[.map (some bg)] 71))
 obtain⟨o,K⟩:=vE (m.alloc (.cells #[.slice none 0 0] 30))
 obtain⟨A,O⟩:=vE (o.alloc (.map #[] 0))
 obtain⟨W5,X⟩:=vE (A.alloc (.cells #[.map (some (w0.heap.size+3))] 63))
 rw[<-H, <-J, <-K, <-O, <-X];have z1:e.heap.size=w0.heap.size+1:=by rw[H,bR]
 have z2:m.heap.size=w0.heap.size+2:=by rw[J,bR,z1]
 have z3:o.heap.size=w0.heap.size+3:=by rw[K,bR,z2]
 have z4:A.heap.size=w0.heap.size+4:=by rw[O,bR,z3]
 have e1:Ext w0 e:=by rw[H];exact (ExtR w0).alloc _
 have e2:Ext e m:=by rw[J];exact (ExtR e).alloc _
 have Z:Ext m o:=by rw[K];exact (ExtR m).alloc _
 have Q:Ext o A:=by rw[O];exact (ExtR o).alloc _
 have E:Ext A W5:=by rw[X];exact (ExtR A).alloc _
 have b1:=by have:=Blk.new w0 (.cells #[.pointer (some ⟨s,0,none⟩)] 25);rw[<-H]at this;exact this
 have b2:=by have:=Blk.new e (.cells #[.map (some bg)] 71);rw[<-J,z1]at this;exact this
 have b3:=by have:=Blk.new m (.cells #[.slice none 0 0] 30);rw[<-K,z2]at this;exact this
 have b4:=by have:=Blk.new o (.map #[] 0);rw[<-O,z3]at this;exact this
 have b5:=by have:=Blk.new A (.cells #[.map (some (w0.heap.size+3))] 63);rw[<-X,z4]at this;exact this
 exact⟨(((e1.trans e2).trans Z).trans Q).trans E,bM _,b1.keeps (((e2.trans Z).trans Q).trans E) (fun g=>g),b2.keeps ((Z.trans Q).trans E) (fun g=>g),b5,
  ⟨[],0,b4.keeps E (fun g=>g),fun y=>rfl⟩,.slice none 0 0,0,b3.keeps (Q.trans E) (fun g=>g),fR _ _ _ _,bM _,fun z hz=>by cases hz⟩
theorem jjO{w:vW}{v:vV}{n:Nat}{xs:vM}(h:w.ownsRow 0 9 1 v n (xs.map Value.string)):RdS w v xs:=by
 have o:xs.length=n:=by have:=h.1;simpa using this
 obtain⟨_,⟨rfl,J⟩ |⟨g,e,A,rfl,K,E,H,O,Q⟩⟩:=id h
 ·exact .inl ⟨none,0,rfl,bD vO⟩
 ·subst o
  refine .inr ⟨g,0,e,rfl,(dH.1 E).1,H,fun j x m=>?_⟩;have X:=(bO.1 m).1
  have:=h.cellAt j vO
  rw[cF,this,bV,m];rfl
theorem jqf(L:vM)(t:vB):readG (L++[t])=addG (readG L) t:=by unfold readG;rw[dF];rfl
theorem jer(L:vM):(∀ p∈readG L,∃ t∈L,p=(ky t,itOf t))/\(∀ t∈L,∃ p∈readG L,p.1=ky t)/\(readG L).length<=L.length:=by
 suffices h:∀ (R m:vM),((∀ p∈readG m,∃ t∈m,p=(ky t,itOf t))/\(∀ t∈m,∃ p∈readG m,p.1=ky t)/\(readG m).length<=m.length)->(∀ p∈readG (m++R),∃ t∈m++R,p=(ky t,itOf t))/\(∀ t∈m++R,∃ p∈readG (m++R),p.1=ky t)/\(readG (m++R)).length<=(m++R).length from by
  have:=h L [] ⟨fun p A=>(by cases A),fun t E=>(by cases E),bM _⟩
  simpa using this
 intro R;induction R with
 | nil=>intro m h;simpa using h
 | cons t R ih =>
  intro m ⟨h1,h2,h3⟩
  have:=ih (m++[t]) (by
   rw[jqf];unfold addG;split
   ·rename_i hb
    obtain⟨p,A,e⟩:=gO.1 hb
    refine⟨fun p A=>by obtain⟨x,o,e⟩:=h1 p A;exact⟨x,bW.2 (.inl o),e⟩,fun x o=>?_,by rw[bF];exact bG h3 (Nat.le_add_right _ _)⟩
    rcases bW.1 o with o | o
    ·exact h2 x o
    ·simp only[cG]at o;subst o;exact⟨p,A,(of_decide_eq_true e).symm⟩
   ·refine⟨fun p A=>?_,fun x o=>?_,by rw[bF,bF];exact Nat.add_le_add_right h3 1⟩
    ·rcases bW.1 A with A | A
     ·obtain⟨x,o,e⟩:=h1 p A;exact⟨x,bW.2 (.inl o),e⟩
     ·simp only[cG]at A;subst A;exact⟨t,by simp,rfl⟩
    ·rcases bW.1 o with o | o
     ·obtain⟨p,A,e⟩:=h2 x o;exact⟨p,bW.2 (.inl A),e⟩
     ·simp only[cG]at o;subst o;exact⟨(ky x,itOf x),by simp,rfl⟩)
  simpa using this
structure jyD(L:vM):Prop where
 node:∀ t∈L,∃ n,jbC t n
 shut:∀ t∈L,∀ h∈jaZ (nodeOf t),∃ t'∈L,h=shaB t'
 few:L.length<=1000
theorem jlP{L:vM}{G:vT}(h:G.map kvI=readG L){t:vB}(ht:t∈L):(atL G (shaB t).data.toList).isSome=true:=by
 obtain⟨p,m,e⟩:=(jer L).2.1 t ht
 rw[<-h]at m
 obtain⟨x,o,rfl⟩:=bI.1 m
 cases ha:atL G (shaB t).data.toList with
 | some y=>rfl
 | none=>exact absurd e.symm (jj7.1 ha x o)
theorem jcG{L:vM}{G:vT}(h:G.map kvI=readG L){x:Nd5}(hx:x∈G):∃ t∈L,x.1=ky t/\x.2.2=itOf t:=by
 obtain⟨t,m,e⟩:=(jer L).1 (kvI x) (by rw[<-h];exact bI.2 ⟨x,hx,rfl⟩)
 exact⟨t,m,congrArg Prod.fst e,congrArg Prod.snd e⟩
def putF(f:Nat)(v:Int)(it:It):It:=if f=2 then { it with used:=v }else { it with held:=v }
def setB(f c:Nat)(v:Int)(x:Nd5):Nd5:=if x.2.1=c then (x.1,x.2.1,putF f v x.2.2)else x
theorem jvy(f c:Nat)(v:Int)(L:vT):(L.map (setB f c v)).map kvN=L.map kvN:=by
 rw[dO];refine dV (fun x _=>?_);simp only[Function.comp,setB];split <;> rfl
theorem jvx(f c:Nat)(v:Int)(L:vT):(L.map (setB f c v)).map (·.2.1)=L.map (·.2.1):=by
 rw[dO];refine dV (fun x _=>?_);simp only[Function.comp,setB];split <;> rfl
theorem jdn.setF{W:vW}{bm:Nat}{L:vT}(h:jdn W bm L){c:Nat}{it:It}(hc:jeR W c it){f:Nat}(hf:f=2\/f=3)(v:Int):jdn (W.setCell ⟨c,f,none⟩ (.int .i64 v)) bm (L.map (setB f c v)):=by
 obtain⟨rv,m,O⟩:=hc.cells
 have o:jae (fun z=>z=c) W (W.setCell ⟨c,f,none⟩ (.int .i64 v)):=jae.oneSet W ⟨c,f,none⟩ _;have hN:jjf W (fun z=>z=c):=fun z Q fz e X=>by
  have e:z=c:=e;subst e
  have:=m.uniq X;injection this with _ A;exact absurd A vI
 obtain⟨Z,ck,J,A⟩:=h.mp
 have E:bm≠c:=fun e=>by subst e;have:=J.uniq m;cases this
 refine⟨⟨Z,ck,J.keeps o E,by rw[jvy];exact A⟩,by rw[jvx];exact h.blks,fun x hx=>?_⟩
 obtain⟨y,hy,rfl⟩:=bI.1 hx
 have K:=h.items y hy;unfold setB;split
 ·rename_i e
  obtain⟨H,hb,hr⟩:=K.cells
  rw[e]at hb
  refine⟨H,?_,?_⟩
  ·show Blk _ y.2.1 _
   rw[e];rcases hf with rfl | rfl
   ·exact hb.set_same (i:=2) _
   ·exact hb.set_same (i:=3) _
  ·have:=jgD hr o hN
   rcases hf with rfl | rfl <;> exact this
 ·rename_i e
  exact K.keeps o e hN
end
def HasS(S:vT)(t:vB):Prop:=∃ x,atL S (ky t)=some x/\x.2.2.text=t
structure HasM(S:vT)(l:vL):Prop where
 ok:jaD l=0
 has:∀ x∈jaB (jaF l),HasS S x
def Inf(v t:vB):Prop:=v.data.toList <:+: t.data.toList
theorem Inf.trans{a b c:vB}(h:Inf a b)(k:Inf b c):Inf a c:=List.IsInfix.trans h k
theorem Inf.rfl'(a:vB):Inf a a:=List.infix_refl _
theorem jeV(a b:vB):Inf b (a++b):=⟨a.data.toList,[],by rw[cW,fO,cC]⟩
theorem jow(v:vB):Inf v (jap v):=by
 unfold jap;split
 ·exact Inf.rfl' v
 ·exact jeV _ _
theorem jr0{x:vB}:∀ {l:vM},x∈l->Inf x (catB l)
 | y :: l,h=>by
  rcases bX.1 h with rfl | h
  ·refine⟨[],(l.map (·.data.toList)).flatten,?_⟩
   show _=x.data.toList++(l.map (·.data.toList)).flatten
   simp
  ·obtain⟨s,t,e⟩:=jr0 h
   have e:s++x.data.toList++t=(l.map (·.data.toList)).flatten:=e
   refine⟨y.data.toList++s,t,?_⟩
   show _=y.data.toList++(l.map (·.data.toList)).flatten;rw[<-e];simp
theorem jhS{x:vB}{l:vM}(h:x∈l):Inf x (jba l):=(jr0 h).trans (jeV _ _)
theorem jdW.inf{f:Nat}{T:PT}{n:jad}(h:jdW f T n){v t:vB}(ht:t∈jaB T)(hv:Inf v t):(∃ t∈jaA (jbo T),Inf v t)\/Inf v (refB T.text):=by
 by_cases hs:T.text.size < 32
 ·have e:=h.small hs
  obtain⟨x,ks⟩:=T
  have e:ks=[]:=e;subst e;unfold jaB jaA at ht;rw[cG]at ht;right;unfold refB;rw[if_pos hs, <-(show t=(PT.mk x []).text from ht)];exact hv
 ·left
  refine⟨t,?_,hv⟩
  unfold jbo;rw[if_neg hs,jbu]
  exact⟨T,cG.2 rfl,ht⟩
def jdr(l:vL):Nat->Nat
 | 0=>0
 | n+1=>jdr l n+(if (cutL n l).length=0 then 0 else 1)
theorem jhj(l:vL)(n:Nat):∀ d,jdr l n<=jdr l (n+d)
 | 0=>bM _
 | d+1=>by have:=jhj l n d;rw[show n+(d+1)=(n+d)+1 from rfl,jdr];omega
theorem jiR{l:vL}{i n:Nat}(h:(cutL i l).length≠0)(hi:i < n):1<=jdr l n:=by
 have:=jhj l (i+1) (n - (i+1))
 rw[show i+1+(n - (i+1))=n by omega,jdr,if_neg h]at this;omega
theorem jgy{l:vL}{i j n:Nat}(h:(cutL i l).length≠0)(hj:(cutL j l).length≠0)(hij:i < j)(hn:j < n):2<=jdr l n:=by
 have e:=jiR h hij
 have:=jhj l (j+1) (n - (j+1))
 rw[show j+1+(n - (j+1))=n by omega,jdr,if_neg hj]at this;omega
theorem jr4(B:vL->PT)(l:vL)(hB:∀ i,(cutL i l).length≠0->(jaB (B (jak 1 (cutL i l)))).length+2<=3 * (cutL i l).length):∀ n,(jaA (ksK B l n)).length+2 * jdr l n<=3 * jdh l n
 | 0=>by simp[ksK,jaA,jdh,jdr]
 | n+1=>by
  rw[jhV,jcp,bF,jdh,jdr]
  have:=jr4 B l hB n
  by_cases h0:(cutL n l).length=0
  ·rw[if_pos h0,if_pos h0];simp[jaA];omega
  ·rw[if_neg h0,if_neg h0]
   have e:=hB n h0;have m:=jiG (B (jak 1 (cutL n l)));omega
theorem jlD{l:vL}(h:∃ p∈l,p.l=[])(n:Nat):jdh l n+1<=l.length:=by
 obtain⟨p,m,e⟩:=h
 induction l with
 | nil=>cases m
 | cons q r ih =>
  rw[jfT,bP];rcases bX.1 m with rfl | m
  ·have:=je6 r n
   rw[e]
   have:hN [] n=0:=rfl
   omega
  ·have:=ih m
   have:=jzd q.l n
   omega
theorem jrz{l:vL}{p:Pair}{x:vU}{r:vN}(hp:p∈l)(hpx:p.l=x :: r):p∈cutL x.toNat l:=cU.2 ⟨hp,by unfold jeM;rw[show p.1.data.toList=x :: r from hpx];simp⟩
theorem jfU{l:vL}{p:Pair}{x:vU}{r:vN}(hp:p∈l)(hpx:p.l=x :: r):(cutL x.toNat l).length≠0:=fun e=>by
 have:=jrz hp hpx
 rw[bD e]at this;cases this
theorem jog{k:Nat}{l:vL}{p:Pair}(h:p∈l):∃ q∈jak k l,q.2=p.2:=⟨_,jE h,rfl⟩
structure jwo(T:PT)(l:vL):Prop where
 all:(jaB T).length+2<=3 * l.length
 two:2<=l.length->comK l=0->(jaB T).length+3<=3 * l.length
 inf:∀ p∈l,∃ t∈jaB T,Inf p.2 t
theorem jot(f:Nat){l:vL}(h:l.length=1):jwo (jac (f+1) l) l:=by
 obtain⟨p,rfl⟩:=fL.1 h
 have e:jaB (jac (f+1) [p])=[jlW ⟨1,p.1,p.2,jam 16⟩]:=by
  show jaB (.mk (jaO (jao (jac f) [p])) (jar (jac f) [p]))=_;have A:jao (jac f) [p]=⟨1,p.1,p.2,jam 16⟩:=rfl;have m:jar (jac f) [p]=[]:=rfl;rw[A,m];rfl
 refine⟨by rw[e];simp,fun m=>by simp at m,fun q o=>?_⟩
 rw[cG]at o;subst o;rw[e]
 refine⟨_,cG.2 rfl,(jow q.2).trans ?_⟩
 unfold jlW;exact jhS (by simp)
theorem grow:∀ (f:Nat) (l:vL),jax f l->l≠[]->jwo (jac (f+1) l) l:=by
 intro f;induction f with
 | zero =>
  intro l h hn;have h0:l.length≠0:=fun e=>hn (bD e);have hl:l.length<=1:=by
   rcases fH l.length 2 with h2 | h2
   ·omega
   ·obtain⟨a,O⟩:∃ a,l[0]?=some a:=⟨_,bA vO⟩
    obtain⟨b,hb⟩:∃ b,l[1]?=some b:=⟨_,bA vO⟩
    have m:=jb9 h.rise vO O hb
    have:=(h.size b (bE hb)).1
    rw[show b.l=[]from bD (by show b.1.size=0;omega)]at m;exact absurd m (not_lt_nil _)
  exact jot 0 vO
 | succ f ih =>
  intro l h hn;have h0:l.length≠0:=fun e=>hn (bD e)
  by_cases h1:l.length=1
  ·exact jot (f+1) h1
  have h2:2<=l.length:=vO
  have o:=jbk h h2;have eT:jaB (jac (f+1+1) l)=jaO (jao (jac (f+1)) l) :: jaA (jar (jac (f+1)) l):=by
   show jaB (.mk (jaO (jao (jac (f+1)) l)) (jar (jac (f+1)) l))=_;rw[jaB]
  by_cases hk:0 < comK l
  ·have a0:jax f (jak (comK l) l):=(jb8 (comK l) h (fun p A q hq=>(o p A).1.trans (o q hq).1.symm) (fun p A=>(o p A).2)).mono vO
   have Q:jak (comK l) l≠[]:=fun e=>by have:=jaL (comK l) l;rw[e]at this;simp at this;omega
   have hg:=ih _ a0 Q
   obtain⟨_,i2,_⟩:=good f _ a0
   have H:=i2 Q;have eB:jar (jac (f+1)) l=jbo (jac (f+1) (jak (comK l) l)):=by
    unfold jar;rw[if_neg vO,if_pos hk]
   have eN:jao (jac (f+1)) l=⟨2,(l.getD 0 pd).1.extract 0 (comK l),⟨#[]⟩,refB (jac (f+1) (jak (comK l) l)).text :: jam 15⟩:=by unfold jao;rw[if_neg h0,if_neg h1,if_pos hk]
   have J:=hg.two (by rw[jaL];omega) (jgf vO);rw[jaL]at J;have hh:=jiG (jac (f+1) (jak (comK l) l))
   refine⟨by rw[eT,eB,bP];omega,fun _ hz=>by omega,fun p A=>?_⟩
   obtain⟨q,hq,e2⟩:=jog (k:=comK l) A
   obtain⟨t,ht,hv⟩:=hg.inf q hq
   rw[e2]at hv;rw[eT,eB];rcases H.inf ht hv with⟨t',ht',hv'⟩ | hv'
   ·exact⟨t',bH _ ht',hv'⟩
   ·refine⟨_,bK,hv'.trans ?_⟩
    have:jaO (jao (jac (f+1)) l)=extB (jao (jac (f+1)) l):=by rw[eN];rfl
    rw[this,eN];unfold extB;exact jhS (by simp)
  ·have K:∀ i,(cutL i l).length≠0->jak 1 (cutL i l)≠[]:=fun i E e=>by have:=jaL 1 (cutL i l);rw[e]at this;simp at this;omega
   have hg:∀ i,(cutL i l).length≠0->jwo (jac (f+1) (jak 1 (cutL i l))) (jak 1 (cutL i l)):=fun i E=>ih _ (jcU i h) (K i E);have H:∀ i,(cutL i l).length≠0->jdW f (jac (f+1) (jak 1 (cutL i l))) (jao (jac f) (jak 1 (cutL i l))):=fun i E=>(good f _ (jcU i h)).2.1 (K i E);have eB:jar (jac (f+1)) l=ksK (jac (f+1)) l 16:=by
    unfold jar;rw[if_neg vO,if_neg hk];rfl
   obtain⟨a,O⟩:∃ a,l[0]?=some a:=⟨_,bA vO⟩
   obtain⟨b,hb⟩:∃ b,l[l.length - 1]?=some b:=⟨_,bA vO⟩
   have ga:l.getD 0 pd=a:=by rw[bC,O];rfl
   have gb:l.getD (l.length - 1) pd=b:=by rw[bC,hb];rfl
   have X:=bE O;have a1:=bE hb;have m:=jb9 h.rise vO O hb
   obtain⟨rs,Z⟩:=vE ((List.range 16).map fun i=>if (cutL i l).length=0 then (⟨#[]⟩:vB)else refB (jac (f+1) (jak 1 (cutL i l))).text)
   have eN:jao (jac (f+1)) l=⟨3,⟨#[]⟩,if a.1.size=0 then a.2 else ⟨#[]⟩,rs⟩:=by unfold jao;rw[if_neg h0,if_neg h1,if_neg hk,ga,Z]
   have J:(jaA (jar (jac (f+1)) l)).length+4<=3 * l.length:=by
    rw[eB];have b0:=jr4 (jac (f+1)) l (fun i E=>by have:=(hg i E).all;rwa [jaL]at this) 16;have a2:ja0 a.l b.l=0:=by have:comK l=ja0 a.l b.l:=(by unfold comK jal;rw[ga,gb]);omega
    cases hbl:b.l with
    | nil=>rw[hbl]at m;exact absurd m (not_lt_nil _)
    | cons y t =>
     have hy:=jcR (h.size b a1).2.2.1 hbl;have cb:=jfU a1 hbl;cases hal:a.l with
     | nil =>
      have:=jlD ⟨a,X,hal⟩ 16
      have:=jiR cb hy
      omega
     | cons x r =>
      have hx:=jcR (h.size a X).2.2.1 hal;have ca:=jfU X hal;have a5:x≠y:=by
       intro e;rw[hal,hbl,e]at a2;simp[ja0]at a2
      have Q:x.toNat≠y.toNat:=fun e=>a5 (dM.1 e)
      have:=je6 l 16
      have:2<=jdr l 16:=by
       rcases fH x.toNat y.toNat with e | e
       ·exact jgy ca cb e hy
       ·exact jgy cb ca vO hx
      omega
   refine⟨by rw[eT,bP];omega,fun _ _=>by rw[eT,bP];omega,fun p A=>?_⟩
   have a3:jaO (jao (jac (f+1)) l)=jd5 (jao (jac (f+1)) l):=by rw[eN];rfl
   have a4:jbO (jao (jac (f+1)) l)=ja5 rs (if a.1.size=0 then a.2 else ⟨#[]⟩):=by
    rw[jdy _ (by rw[eN,Z];simp),eN]
   cases hpl:p.l with
   | nil =>
    have a6:p=a:=by
     obtain⟨i,E⟩:=gK A
     by_cases h00:i=0
     ·subst h00;rw[O]at E;exact (bN E).symm
     ·have:=jb9 h.rise vO O E
      rw[hpl]at this;exact absurd this (not_lt_nil _)
    subst a6;have hz:p.1.size=0:=by show p.1.data.toList.length=0;rw[show p.1.data.toList=[]from hpl];rfl
    rw[eT]
    refine⟨_,bK,(jow p.2).trans ?_⟩
    rw[a3];unfold jd5;rw[a4,if_pos hz];refine jhS ?_;unfold ja5;simp
   | cons x r =>
    have hx:=jcR (h.size p A).2.2.1 hpl;have hc:=jfU A hpl
    obtain⟨q,hq,e2⟩:=jog (k:=1) (jrz A hpl)
    obtain⟨t,ht,hv⟩:=(hg _ hc).inf q hq
    rw[e2]at hv;rw[eT,eB];rcases (H _ hc).inf ht hv with⟨t',ht',hv'⟩ | hv'
    ·refine⟨t',bH _ ?_,hv'⟩
     obtain⟨T',a7,a8⟩:=jbu.1 ht'
     refine jbu.2 ⟨T',?_,a8⟩;unfold ksK;refine fA.2 ⟨x.toNat,dZ.2 hx,?_⟩;rw[if_neg hc];exact a7
    ·refine⟨_,bK,hv'.trans ?_⟩
     rw[a3];unfold jd5;rw[a4];refine jhS ?_;unfold ja5;refine bW.2 (.inl ?_);have a9:refB (jac (f+1) (jak 1 (cutL x.toNat l))).text∈rs:=by
      rw[Z];refine bI.2 ⟨x.toNat,dZ.2 hx,?_⟩;rw[if_neg hc]
     refine bI.2 ⟨_,a9,?_⟩;rw[if_neg (H _ hc).may.1.pos]
theorem jqw{l:vL}(h:jaD l=0):(jaU (jaB (jaF l))).length<=1+3 * l.length/\∀ p∈l,∃ t∈jaU (jaB (jaF l)),Inf p.2 t:=by
 by_cases h0:l=[]
 ·subst h0
  refine⟨?_,by simp⟩
  have:=jg1 (jaB (jaF []))
  have E:=jh4 (jaG h);simp at E ⊢;omega
 ·have H:=jbx (jaG h)
  have m:jaM l≠[]:=fun e=>h0 (by unfold jaM at e;simpa using e);have o:=grow 12 (jaM l) H m;have J:(jaM l).length=l.length:=by unfold jaM;rw[bU]
  have A:=o.all;rw[J]at A;have Z:=jg1 (jaB (jaF l));have K:jaF l=jac (12+1) (jaM l):=rfl;rw[<-K]at A
  refine⟨by omega,fun p O=>?_⟩
  obtain⟨t,Q,X⟩:=o.inf _ (jE O)
  exact⟨t,(jbb _ _).2 Q,X⟩
end Go.Proofs.YtegloohdmjadoaaGreatDoor
