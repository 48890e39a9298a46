/- Lemmas; each is under no condition but those that it states. -/
import Derived.Test.YtfjmkebdhojanaaGreatDoorPt21
namespace Go.Proofs.YtfjmkebdhojanaaGreatDoor
set_option linter.unusedSimpArgs false
set_option linter.unusedVariables false
set_option maxRecDepth 100000
set_option maxHeartbeats 16000000
open Go Go.RowKit
def refT(m:vL):vB:=refB (jac 13 m).text
def comP(l:vL):vB:=(l.getD 0 pd).1.extract 0 (comK l)
def absP(p:vB)(l:vL):vL:=l.map fun q=>(p++q.1,q.2)
def jck(p:vB)(l:vL):List (vB × vL):=
 if l.length<=1 then []else if 0 < comK l then [(p++comP l,jak (comK l) l)]
 else (List.range 16).flatMap fun i=>if (cutL i l).length=0 then []else [(p++nib1 i,jak 1 (cutL i l))]
def ownP(p:vB)(l:vL):vL:=
 if l.length<=1 then absP p l else if 0 < comK l then []else absP p (jo0 l)
abbrev Pl:=vB × vB
instance decPl (q:Pl) (out:List Pl):Decidable (q∈out):=decidable_of_iff (out.any (fun x=>decide (q=x))=true) (by simp)
theorem jhu(a b:vB):preB a (a++b)=true:=(jds _ _).2 ⟨b.data.toList,jcr a b⟩
def metF(out:List Pl):Nat->vB->vL->List Pl
 | 0,_,_=>[]
 | f+1,p,l=>if (p,refT l)∈out then []else (p,refT l) ::(jck p l).flatMap fun k=>metF out f k.1 k.2
def jgU(out:List Pl):Nat->vB->vL->vL
 | 0,_,_=>[]
 | f+1,p,l=>if (p,refT l)∈out then []else ownP p l++(jck p l).flatMap fun k=>jgU out f k.1 k.2
theorem juu(p:vB)(a b:vL):absP p (a++b)=absP p a++absP p b:=cB
theorem jgm(p a:vB)(k:Nat)(l:vL)(h:∀ q∈l,p++q.1=(p++a)++q.1.extract k q.1.size):absP p l=absP (p++a) (jak k l):=by
 unfold absP jak;rw[dN];exact dI fun q e=>by show (p++q.1,q.2)=((p++a)++q.1.extract k q.1.size,q.2);rw[h q e]
theorem jk6{p:vB}{l:vL}{e:Pair}(h:e∈absP p l):preB p e.1=true:=by
 obtain⟨q,_,rfl⟩:=bK.1 h
 exact jhu _ _
theorem jgM{a b c:vB}(h:preB a b=true)(k:preB b c=true):preB a c=true:=by
 obtain⟨r,h⟩:=(jds _ _).1 h
 obtain⟨s,k⟩:=(jds _ _).1 k
 exact (jds _ _).2 ⟨r++s,by rw[k,h,cE]⟩
structure KidR(f:Nat)(p:vB)(l:vL)(k:vB × vL):Prop where
 rows:jap f k.2
 ne:k.2≠[]
 pre:preB p k.1=true
 more:p.size < k.1.size
 text:∀ x∈jav (jac (f+1) k.2),32<=x.size->x∈jav (jac (f+1+1) l)
 abs:∀ e∈absP k.1 k.2,e∈absP p l
 less:k.2.length<=l.length
theorem jmw(i:Nat):(nib1 i).size=1:=rfl
theorem jgb{f:Nat}{p:vB}{l:vL}(h:jap (f+1) l):∀ k∈jck p l,KidR f p l k:=by
 intro k o;unfold jck at o;split at o
 ·cases o
 ·rename_i h1
  have O:2<=l.length:=vO
  have A:=jbi h O;split at o
  ·rename_i h3
   rw[bY.1 o]
   obtain⟨E,H,_,_⟩:=jef h O h3
   have Q:∀ q∈l,p++q.1=(p++comP l)++q.1.extract (comK l) q.1.size:=fun q J=>jnB (by unfold comP;rw[(A q J).1,jfk]);have X:jas (jac (f+1)) l=jbp (jac (f+1) (jak (comK l) l)):=by
    unfold jas;rw[if_neg vO,if_pos h3]
   exact⟨E,H,jhu _ _,by show p.size < (p++comP l).size;rw[bV];unfold comP;rw[jdi h O];omega,jhT H E (by rw[X];exact fun _ Z=>Z),fun e K=>by rw[jgm p _ _ l Q];exact K,by show (jak _ _).length<=_;rw[jaI];exact bL _⟩
  ·rename_i h3
   obtain⟨i,hi,o⟩:=cU.1 o
   split at o
   ·cases o
   ·rename_i hc
    rw[bY.1 o]
    obtain⟨E,H⟩:=je5 h hc
    refine⟨E,H,jhu _ _,by show p.size < (p++nib1 i).size;rw[bV,jmw];omega,jhT H E ?_,fun e K=>?_,by show (jak _ _).length<=_;rw[jaI];exact dF _ _⟩
    ·intro T hT
     unfold jas;rw[if_neg vO,if_neg h3];refine cU.2 ⟨i,hi,?_⟩;rw[if_neg hc];exact hT
    ·have:absP (p++nib1 i) (jak 1 (cutL i l))=absP p (cutL i l):=(jgm p _ _ _ fun q J=>by
      obtain⟨_,x,r,e1,e2⟩:=jbA J
      exact jnA (k:=0) e1 e2).symm
     rw[this]at K
     obtain⟨q,J,rfl⟩:=bK.1 K
     exact bK.2 ⟨q,(jbA J).1,rfl⟩
theorem jga{p:vB}{l:vL}(h:jap 0 l):jck p l=[]:=by unfold jck;rw[if_pos (jbI h)]
theorem jlD{f:Nat}(p:vB){l:vL}(h:jap f l):absP p l=ownP p l++(jck p l).flatMap fun k=>absP k.1 k.2:=by
 unfold ownP jck
 by_cases h1:l.length<=1
 ·rw[if_pos h1,if_pos h1];simp
 rw[if_neg h1,if_neg h1];have e:=jbi h vO
 by_cases h3:0 < comK l
 ·rw[if_pos h3,if_pos h3]
  simp only[cG,fU,bZ,cT];exact jgm p _ _ l fun q o=>jnB (by unfold comP;rw[(e q o).1,jfk])
 ·rw[if_neg h3,if_neg h3]
  conv=>lhs;rw[jkd h,juu]
  congr 1
  unfold absP;rw[List.map_flatMap,List.flatMap_assoc]
  congr 1
  funext i
  by_cases hc:(cutL i l).length=0
  ·rw[if_pos hc,bE hc];rfl
  ·rw[if_neg hc]
   simp only[cG,fU,bZ];exact jgm p _ _ _ fun q o=>by
    obtain⟨_,x,r,A,E⟩:=jbA o
    exact jnA (k:=0) A E
theorem jyb{p e:vB}{i j:Nat}(hi:i < 16)(hj:j < 16)(h:preB (p++nib1 i) e=true)(k:preB (p++nib1 j) e=true):i=j:=by
 obtain⟨r,h⟩:=(jds _ _).1 h
 obtain⟨s,k⟩:=(jds _ _).1 k
 rw[h,jcr,jcr,cE,cE]at k;have k:=iA k;unfold nib1 at k;simp only[dA,cT,List.cons.injEq]at k
 have:=congrArg UInt8.toNat k.1
 rw[fD,fD]at this;omega
theorem jjX(p:vB)(l:vL):(jck p l).Pairwise fun k A=>∀ e:vB,preB k.1 e=true->preB A.1 e=true->False:=by
 unfold jck;split
 ·exact .nil
 split
 ·exact List.pairwise_singleton _ _
 ·have:∀ n,n<=16->((List.range n).flatMap fun i=>if (cutL i l).length=0 then []else [(p++nib1 i,jak 1 (cutL i l))]).Pairwise fun k A:vB × vL=>∀ e:vB,preB k.1 e=true->preB A.1 e=true->False:=fun n=>by
   induction n with
   | zero=>intro _;simp
   | succ n ih =>
    intro K;rw[fR,dX,jF]
    refine⟨ih vO,?_,fun a o b hb e E H=>?_⟩
    ·simp only[cG,fU,bZ]
     split
     ·exact .nil
     ·exact List.pairwise_singleton _ _
    ·obtain⟨i,J,o⟩:=cU.1 o
     simp only[cG,fU,bZ]at hb;split at o
     ·cases o
     split at hb
     ·cases hb
     rw[bY.1 o]at E;rw[bY.1 hb]at H;have J:=fA.1 J
     have:=jyb vO vO E H
     omega
  exact this 16 (bL _)
theorem jmF{f:Nat}{p:vB}{l:vL}(h:jap f l){k:vB × vL}(o:k∈jck p l){e:Pair}(he:e∈ownP p l):preB k.1 e.1=false:=by
 unfold ownP at he
 by_cases h1:l.length<=1
 ·unfold jck at o;rw[if_pos h1]at o;cases o
 rw[if_neg h1]at he
 by_cases h3:0 < comK l
 ·rw[if_pos h3]at he;cases he
 rw[if_neg h3]at he
 obtain⟨q,E,rfl⟩:=bK.1 he
 have A:=(cP.1 E).2;have A:q.1.size=0:=by simpa using A
 unfold jck at o;rw[if_neg h1,if_neg h3]at o
 obtain⟨i,_,o⟩:=cU.1 o
 split at o
 ·cases o
 rw[bY.1 o];refine gD.2 fun H=>?_
 have:=jk7 H
 simp only[bV,jmw,A]at this;omega
theorem jkS{out:List Pl}:∀ (f:Nat) (p:vB) (l:vL),jap f l->∀ q∈metF out (f+1) p l,preB p q.1=true:=by
 intro f;induction f with
 | zero =>
  intro p l h q e;rw[metF,jga h]at e;split at e
  ·cases e
  ·rw[bY.1 e];exact (jds _ _).2 ⟨[],by simp⟩
 | succ f ih =>
  intro p l h q e;rw[metF]at e;split at e
  ·cases e
  rcases bM.1 e with rfl | e
  ·exact (jds _ _).2 ⟨[],by simp⟩
  ·obtain⟨k,A,e⟩:=cU.1 e
   have o:=jgb h k A;exact jgM o.pre (ih _ _ o.rows q e)
def jeR(A B:List Pl)(e:vB):Bool:=A.any fun q=>decide (q∈B) && preB q.1 e
theorem jfV(q:Pl)(A B:List Pl)(e:vB):jeR (q :: A) B e=((decide (q∈B) && preB q.1 e) || jeR A B e):=List.any_cons
theorem jsD{f:Nat}(out:List Pl)(p:vB)(l:vL)(ks:List (vB × vL))(hK:∀ k∈ks,KidR f p l k)(hA:ks.Pairwise fun k H=>∀ e:vB,preB k.1 e=true->preB H.1 e=true->False)
  (ih:∀ k∈ks,jgU out (f+1) k.1 k.2=(absP k.1 k.2).filter fun e => !jeR (metF [] (f+1) k.1 k.2) out e.1) :
  ∀ o:List (vB × vL),(∀ k∈o,k∈ks)->(∀ k∈ks,∀ H∈o,k=H\/∀ e:vB,preB k.1 e=true->preB H.1 e=true->False)->o.flatMap (fun k=>jgU out (f+1) k.1 k.2)=(o.flatMap fun k=>absP k.1 k.2).filter fun e => !jeR (ks.flatMap fun k=>metF [] (f+1) k.1 k.2) out e.1:=by
 intro o;induction o with
 | nil=>intros;rfl
 | cons k o ih' =>
  intro J Q;rw[cG,cG,gO,ih' (fun x K=>J x (bD _ K)) (fun x K y Z=>Q x K y (bD _ Z)),ih k (J k bG)]
  congr 1
  refine List.filter_congr fun e he=>?_
  congr 1
  have O:=jk6 he;unfold jeR;rw[jB,fP,fP];constructor
  ·rintro⟨q,A,h⟩
   exact⟨q,cU.2 ⟨k,J k bG,A⟩,h⟩
  ·rintro⟨q,A,h⟩
   obtain⟨X,E,A⟩:=cU.1 A
   rcases Q X E k bG with rfl | h3
   ·exact⟨q,A,h⟩
   ·exact (h3 e.1 (jgM (jkS f _ _ (hK X E).rows q A) (by simpa using (iM.1 h).2)) O).elim
theorem joc{α:Type}{R:α->α->Prop}(hs:∀ a b,R a b->R b a):∀ {l:List α},l.Pairwise R->∀ a∈l,∀ b∈l,a=b\/R a b
 | x :: l,h,a,ha,b,hb=>by
  rw[cW]at h;rcases bM.1 ha with e | ha <;> rcases bM.1 hb with e' | hb
  ·exact .inl (e.trans e'.symm)
  ·exact .inr (e ▸ h.1 _ hb)
  ·exact .inr (e' ▸ hs _ _ (h.1 _ ha))
  ·exact joc hs h.2 a ha b hb
theorem jyJ{f:Nat}{out:List Pl}{p:vB}{l:vL}(h:jap (f+1) l){e:Pair}(he:e∈ownP p l):jeR ((jck p l).flatMap fun k=>metF [] (f+1) k.1 k.2) out e.1=false:=by
 unfold jeR;rw[List.any_eq_false];intro q o E
 obtain⟨k,A,o⟩:=cU.1 o
 have:=jmF h A he
 rw[jgM (jkS f _ _ (jgb h k A).rows q o) (by simpa using (iM.1 E).2)]at this;cases this
theorem jmA{f:Nat}(out:List Pl)(p:vB){l:vL}(h:jap (f+1) l)(ih:∀ (p:vB) (l:vL),jap f l->jgU out (f+1) p l=(absP p l).filter fun e => !jeR (metF [] (f+1) p l) out e.1) :
  ownP p l++(jck p l).flatMap (fun k=>jgU out (f+1) k.1 k.2)=(absP p l).filter fun e => !jeR ((jck p l).flatMap fun k=>metF [] (f+1) k.1 k.2) out e.1:=by
 have o:=jgb (p:=p) h;have A:=jjX p l
 conv=>rhs;rw[jlD p h,gO]
 congr 1
 ·rw[jI.2]
  intro e E;rw[jyJ h E];rfl
 ·exact jsD out p l (jck p l) o A (fun k H=>ih _ _ (o k H).rows) (jck p l) (fun _ h=>h) (joc (fun a b h e J K=>h e K J) A)
theorem jow(out:List Pl):∀ (f:Nat) (p:vB) (l:vL),jap f l->jgU out (f+1) p l=(absP p l).filter fun e => !jeR (metF [] (f+1) p l) out e.1:=by
 intro f;induction f with
 | zero =>
  intro p l h;rw[jgU,metF,jga h,if_neg (cM)]
  by_cases ho:(p,refT l)∈out
  ·rw[if_pos ho,eq_comm,iD]
   intro e o;rw[jfV,jk6 o];simp[ho]
  ·rw[if_neg ho,eq_comm]
   show _=ownP p l++[];rw[bZ,show ownP p l=absP p l by unfold ownP;rw[if_pos (jbI h)],jI];intro e o;rw[jfV];simp[ho,jeR]
 | succ f ih =>
  intro p l h;rw[jgU,metF,if_neg (cM)]
  by_cases ho:(p,refT l)∈out
  ·rw[if_pos ho,eq_comm,iD]
   intro e o;rw[jfV,jk6 o];simp[ho]
  ·rw[if_neg ho,jmA out p h ih]
   refine List.filter_congr fun e o=>?_;rw[jfV,decide_eq_false ho];rfl
structure jkn(f:Nat)(p:vB)(l:vL)(q:Pl)(m:vL):Prop where
 rows:jap 12 m
 ne:m≠[]
 ref:q.2=refT m
 up:∀ e∈absP q.1 m,e∈absP p l
 down:∀ e∈absP p l,preB q.1 e.1=true->e∈absP q.1 m
 text:∀ x∈jav (jac 13 m),32<=x.size->x∈jav (jac 13 l)
theorem jtR{f:Nat}{l:vL}(h:jap f l):jap 12 l:=⟨fun p e=>⟨(h.size p e).2.1,(h.size p e).2⟩,h.rise⟩
theorem jif{f:Nat}{l:vL}(h:jap f l):jac (f+1) l=jac 13 l:=by
 rcases Nat.le_total f 12 with hf | hf
 ·exact (jjz f 12 l h hf).2
 ·exact (jjz 12 f l (jtR h) hf).2.symm
theorem jml{f:Nat}{p:vB}{l:vL}(h:jap (f+1) l){k:vB × vL}(hk:k∈jck p l){q:Pl}{m:vL}(hq:q∈metF [] (f+1) k.1 k.2)(hP:jkn f k.1 k.2 q m):jkn (f+1) p l q m:=by
 have H:=jgb h k hk
 refine⟨hP.rows,hP.ne,hP.ref,fun e o=>H.abs e (hP.up e o),fun e o K=>?_,fun x O E=>?_⟩
 ·refine hP.down e ?_ K
  have A:=jgM (jkS f _ _ H.rows q hq) K;rw[jlD p h]at o;rcases bU.1 o with o | o
  ·rw[jmF h hk o]at A;cases A
  ·obtain⟨Q,J,o⟩:=cU.1 o
   rcases joc (fun a b h e X Z=>h e Z X) (jjX p l) k hk Q J with rfl | h3
   ·exact o
   ·exact (h3 e.1 A (jk6 o)).elim
 ·have:=H.text x (by rw[jif H.rows];exact hP.text x O E) E
  rw[jif h]at this;exact this
theorem jvR:∀ (f:Nat) (p:vB) (l:vL),jap f l->l≠[]->∀ q∈metF [] (f+1) p l,∃ m,jkn f p l q m:=by
 intro f;induction f with
 | zero =>
  intro p l h E q o;rw[metF,jga h,if_neg (cM)]at o;rw[bY.1 o]
  exact⟨l,jtR h,E,rfl,fun e A=>A,fun e A _=>A,fun x H _=>H⟩
 | succ f ih =>
  intro p l h E q o;rw[metF,if_neg (cM)]at o;rcases bM.1 o with rfl | o
  ·exact⟨l,jtR h,E,rfl,fun e A=>A,fun e A _=>A,fun x H _=>H⟩
  ·obtain⟨k,J,o⟩:=cU.1 o
   have K:=jgb h k J
   obtain⟨m,O⟩:=ih _ _ K.rows K.ne q o
   exact⟨m,jml h J o O⟩
