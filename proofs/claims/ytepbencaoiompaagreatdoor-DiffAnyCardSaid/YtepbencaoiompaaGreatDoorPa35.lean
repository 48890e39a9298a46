/- Lemmas; each is under no condition but those that it states. -/
import Derived.Test.YtepbencaoiompaaGreatDoorPa22
namespace Go.Proofs.YtepbencaoiompaaGreatDoor
set_option linter.unusedSimpArgs false
set_option linter.unusedVariables false
set_option maxRecDepth 100000
set_option maxHeartbeats 16000000
open Go Go.RowKit
def refT(m:vL):vB:=refB (jab 13 m).text
def comP(l:vL):vB:=(l.getD 0 pd).1.extract 0 (comK l)
def absP(p:vB)(l:vL):vL:=l.map fun q=>(p++q.1,q.2)
def jcr(p:vB)(l:vL):List (vB × vL):=
 if l.length<=1 then []else if 0 < comK l then [(p++comP l,jal (comK l) l)]
 else (List.range 16).flatMap fun i=>if (cutL i l).length=0 then []else [(p++nib1 i,jal 1 (cutL i l))]
def ownP(p:vB)(l:vL):vL:=
 if l.length<=1 then absP p l else if 0 < comK l then []else absP p (jpc l)
abbrev Pl:=vB × vB
instance decPl (q:Pl) (out:List Pl):Decidable (q∈out):=decidable_of_iff (out.any (fun x=>decide (q=x))=true) (by simp)
theorem jhz(a b:vB):preB a (a++b)=true:=(jdg _ _).2 ⟨b.data.toList,jcw a b⟩
def metF(out:List Pl):Nat->vB->vL->List Pl
 | 0,_,_=>[]
 | f+1,p,l=>if (p,refT l)∈out then []else (p,refT l) ::(jcr p l).flatMap fun k=>metF out f k.1 k.2
def jg1(out:List Pl):Nat->vB->vL->vL
 | 0,_,_=>[]
 | f+1,p,l=>if (p,refT l)∈out then []else ownP p l++(jcr p l).flatMap fun k=>jg1 out f k.1 k.2
theorem juS(p:vB)(a b:vL):absP p (a++b)=absP p a++absP p b:=bZ
theorem jgt(p a:vB)(k:Nat)(l:vL)(h:∀ q∈l,p++q.1=(p++a)++q.1.extract k q.1.size):absP p l=absP (p++a) (jal k l):=by
 unfold absP jal;rw[dL];exact dF fun q e=>by show (p++q.1,q.2)=((p++a)++q.1.extract k q.1.size,q.2);rw[h q e]
theorem jll{p:vB}{l:vL}{e:Pair}(h:e∈absP p l):preB p e.1=true:=by
 obtain⟨q,_,rfl⟩:=bI.1 h
 exact jhz _ _
theorem jgS{a b c:vB}(h:preB a b=true)(k:preB b c=true):preB a c=true:=by
 obtain⟨r,h⟩:=(jdg _ _).1 h
 obtain⟨s,k⟩:=(jdg _ _).1 k
 exact (jdg _ _).2 ⟨r++s,by rw[k,h,bX]⟩
structure KidR(f:Nat)(p:vB)(l:vL)(k:vB × vL):Prop where
 rows:jav f k.2
 ne:k.2≠[]
 pre:preB p k.1=true
 more:p.size < k.1.size
 text:∀ x∈jau (jab (f+1) k.2),32<=x.size->x∈jau (jab (f+1+1) l)
 abs:∀ e∈absP k.1 k.2,e∈absP p l
 less:k.2.length<=l.length
theorem jmO(i:Nat):(nib1 i).size=1:=rfl
theorem jgl{f:Nat}{p:vB}{l:vL}(h:jav (f+1) l):∀ k∈jcr p l,KidR f p l k:=by
 intro k o;unfold jcr at o;split at o
 ·cases o
 ·rename_i h1
  have K:2<=l.length:=vO
  have z:=jby h K;split at o
  ·rename_i h3
   rw[bP.1 o]
   obtain⟨A,E,_,_⟩:=jeo h K h3
   have O:∀ q∈l,p++q.1=(p++comP l)++q.1.extract (comK l) q.1.size:=fun q H=>jnI (by unfold comP;rw[(z q H).1,jfo]);have Q:jat (jab (f+1)) l=jbG (jab (f+1) (jal (comK l) l)):=by
    unfold jat;rw[if_neg vO,if_pos h3]
   exact⟨A,E,jhz _ _,by show p.size < (p++comP l).size;rw[cC];unfold comP;rw[jds h K];omega,jh5 E A (by rw[Q];exact fun _ X=>X),fun e J=>by rw[jgt p _ _ l O];exact J,by show (jal _ _).length<=_;rw[jaJ];exact bL _⟩
  ·rename_i h3
   obtain⟨i,Z,o⟩:=cP.1 o
   split at o
   ·cases o
   ·rename_i hc
    rw[bP.1 o]
    obtain⟨A,E⟩:=jfb h hc
    refine⟨A,E,jhz _ _,by show p.size < (p++nib1 i).size;rw[cC,jmO];omega,jh5 E A ?_,fun e J=>?_,by show (jal _ _).length<=_;rw[jaJ];exact fE _ _⟩
    ·intro T hT
     unfold jat;rw[if_neg vO,if_neg h3];refine cP.2 ⟨i,Z,?_⟩;rw[if_neg hc];exact hT
    ·have:absP (p++nib1 i) (jal 1 (cutL i l))=absP p (cutL i l):=(jgt p _ _ _ fun q H=>by
      obtain⟨_,x,r,e1,e2⟩:=jbv H
      exact jnH (k:=0) e1 e2).symm
     rw[this]at J
     obtain⟨q,H,rfl⟩:=bI.1 J
     exact bI.2 ⟨q,(jbv H).1,rfl⟩
theorem jgk{p:vB}{l:vL}(h:jav 0 l):jcr p l=[]:=by unfold jcr;rw[if_pos (jbD h)]
theorem jlU{f:Nat}(p:vB){l:vL}(h:jav f l):absP p l=ownP p l++(jcr p l).flatMap fun k=>absP k.1 k.2:=by
 unfold ownP jcr
 by_cases h1:l.length<=1
 ·rw[if_pos h1,if_pos h1];simp
 rw[if_neg h1,if_neg h1];have e:=jby h vO
 by_cases h3:0 < comK l
 ·rw[if_pos h3,if_pos h3]
  simp only[cG,fP,bU,cM];exact jgt p _ _ l fun q o=>jnI (by unfold comP;rw[(e q o).1,jfo])
 ·rw[if_neg h3,if_neg h3]
  conv=>lhs;rw[jkl h,juS]
  congr 1
  unfold absP;rw[List.map_flatMap,List.flatMap_assoc]
  congr 1
  funext i
  by_cases hc:(cutL i l).length=0
  ·rw[if_pos hc,bG hc];rfl
  ·rw[if_neg hc]
   simp only[cG,fP,bU];exact jgt p _ _ _ fun q o=>by
    obtain⟨_,x,r,z,A⟩:=jbv o
    exact jnH (k:=0) z A
theorem jyS{p e:vB}{i j:Nat}(hi:i < 16)(hj:j < 16)(h:preB (p++nib1 i) e=true)(k:preB (p++nib1 j) e=true):i=j:=by
 obtain⟨r,h⟩:=(jdg _ _).1 h
 obtain⟨s,k⟩:=(jdg _ _).1 k
 rw[h,jcw,jcw,bX,bX]at k;have k:=gU k;unfold nib1 at k;simp only[cQ,cM,List.cons.injEq]at k
 have:=congrArg UInt8.toNat k.1
 rw[gF,gF]at this;omega
theorem jj2(p:vB)(l:vL):(jcr p l).Pairwise fun k q=>∀ e:vB,preB k.1 e=true->preB q.1 e=true->False:=by
 unfold jcr;split
 ·exact .nil
 split
 ·exact List.pairwise_singleton _ _
 ·have:∀ n,n<=16->((List.range n).flatMap fun i=>if (cutL i l).length=0 then []else [(p++nib1 i,jal 1 (cutL i l))]).Pairwise fun k q:vB × vL=>∀ e:vB,preB k.1 e=true->preB q.1 e=true->False:=fun n=>by
   induction n with
   | zero=>intro _;simp
   | succ n ih =>
    intro H;rw[gA,dS,List.pairwise_append]
    refine⟨ih vO,?_,fun a o b hb e z A=>?_⟩
    ·simp only[cG,fP,bU]
     split
     ·exact .nil
     ·exact List.pairwise_singleton _ _
    ·obtain⟨i,E,o⟩:=cP.1 o
     simp only[cG,fP,bU]at hb;split at o
     ·cases o
     split at hb
     ·cases hb
     rw[bP.1 o]at z;rw[bP.1 hb]at A;have E:=dR.1 E
     have:=jyS vO vO z A
     omega
  exact this 16 (bL _)
theorem jmV{f:Nat}{p:vB}{l:vL}(h:jav f l){k:vB × vL}(o:k∈jcr p l){e:Pair}(he:e∈ownP p l):preB k.1 e.1=false:=by
 unfold ownP at he
 by_cases h1:l.length<=1
 ·unfold jcr at o;rw[if_pos h1]at o;cases o
 rw[if_neg h1]at he
 by_cases h3:0 < comK l
 ·rw[if_pos h3]at he;cases he
 rw[if_neg h3]at he
 obtain⟨q,A,rfl⟩:=bI.1 he
 have z:=(cN.1 A).2;have z:q.1.size=0:=by simpa using z
 unfold jcr at o;rw[if_neg h1,if_neg h3]at o
 obtain⟨i,_,o⟩:=cP.1 o
 split at o
 ·cases o
 rw[bP.1 o];refine cU.2 fun E=>?_
 have:=jlm E
 simp only[cC,jmO,z]at this;omega
theorem jk7{out:List Pl}:∀ (f:Nat) (p:vB) (l:vL),jav f l->∀ q∈metF out (f+1) p l,preB p q.1=true:=by
 intro f;induction f with
 | zero =>
  intro p l h q e;rw[metF,jgk h]at e;split at e
  ·cases e
  ·rw[bP.1 e];exact (jdg _ _).2 ⟨[],by simp⟩
 | succ f ih =>
  intro p l h q e;rw[metF]at e;split at e
  ·cases e
  rcases bM.1 e with rfl | e
  ·exact (jdg _ _).2 ⟨[],by simp⟩
  ·obtain⟨k,z,e⟩:=cP.1 e
   have o:=jgl h k z;exact jgS o.pre (ih _ _ o.rows q e)
def je0(A B:List Pl)(e:vB):Bool:=A.any fun q=>decide (q∈B) && preB q.1 e
theorem jf0(q:Pl)(A B:List Pl)(e:vB):je0 (q :: A) B e=((decide (q∈B) && preB q.1 e) || je0 A B e):=List.any_cons
theorem js2{f:Nat}(out:List Pl)(p:vB)(l:vL)(ks:List (vB × vL))(hK:∀ k∈ks,KidR f p l k)(hA:ks.Pairwise fun k E=>∀ e:vB,preB k.1 e=true->preB E.1 e=true->False)
  (ih:∀ k∈ks,jg1 out (f+1) k.1 k.2=(absP k.1 k.2).filter fun e => !je0 (metF [] (f+1) k.1 k.2) out e.1) :
  ∀ o:List (vB × vL),(∀ k∈o,k∈ks)->(∀ k∈ks,∀ E∈o,k=E\/∀ e:vB,preB k.1 e=true->preB E.1 e=true->False)->o.flatMap (fun k=>jg1 out (f+1) k.1 k.2)=(o.flatMap fun k=>absP k.1 k.2).filter fun e => !je0 (ks.flatMap fun k=>metF [] (f+1) k.1 k.2) out e.1:=by
 intro o;induction o with
 | nil=>intros;rfl
 | cons k o ih' =>
  intro H O;rw[cG,cG,gT,ih' (fun x J=>H x (bC _ J)) (fun x J y X=>O x J y (bC _ X)),ih k (H k bD)]
  congr 1
  refine List.filter_congr fun e Z=>?_
  congr 1
  have K:=jll Z;unfold je0;rw[iU,fQ,fQ];constructor
  ·rintro⟨q,z,h⟩
   exact⟨q,cP.2 ⟨k,H k bD,z⟩,h⟩
  ·rintro⟨q,z,h⟩
   obtain⟨Q,A,z⟩:=cP.1 z
   rcases O Q A k bD with rfl | h3
   ·exact⟨q,z,h⟩
   ·exact (h3 e.1 (jgS (jk7 f _ _ (hK Q A).rows q z) (by simpa using (iH.1 h).2)) K).elim
theorem jom{α:Type}{R:α->α->Prop}(hs:∀ a b,R a b->R b a):∀ {l:List α},l.Pairwise R->∀ a∈l,∀ b∈l,a=b\/R a b
 | x :: l,h,a,ha,b,hb=>by
  rw[dE]at h;rcases bM.1 ha with e | ha <;> rcases bM.1 hb with e' | hb
  ·exact .inl (e.trans e'.symm)
  ·exact .inr (e ▸ h.1 _ hb)
  ·exact .inr (e' ▸ hs _ _ (h.1 _ ha))
  ·exact jom hs h.2 a ha b hb
theorem jzm{f:Nat}{out:List Pl}{p:vB}{l:vL}(h:jav (f+1) l){e:Pair}(he:e∈ownP p l):je0 ((jcr p l).flatMap fun k=>metF [] (f+1) k.1 k.2) out e.1=false:=by
 unfold je0;rw[List.any_eq_false];intro q o A
 obtain⟨k,z,o⟩:=cP.1 o
 have:=jmV h z he
 rw[jgS (jk7 f _ _ (jgl h k z).rows q o) (by simpa using (iH.1 A).2)]at this;cases this
theorem jmR{f:Nat}(out:List Pl)(p:vB){l:vL}(h:jav (f+1) l)(ih:∀ (p:vB) (l:vL),jav f l->jg1 out (f+1) p l=(absP p l).filter fun e => !je0 (metF [] (f+1) p l) out e.1) :
  ownP p l++(jcr p l).flatMap (fun k=>jg1 out (f+1) k.1 k.2)=(absP p l).filter fun e => !je0 ((jcr p l).flatMap fun k=>metF [] (f+1) k.1 k.2) out e.1:=by
 have o:=jgl (p:=p) h;have q:=jj2 p l
 conv=>rhs;rw[jlU p h,gT]
 congr 1
 ·rw[List.filter_eq_self.2]
  intro e z;rw[jzm h z];rfl
 ·exact js2 out p l (jcr p l) o q (fun k A=>ih _ _ (o k A).rows) (jcr p l) (fun _ h=>h) (jom (fun a b h e E H=>h e H E) q)
theorem joB(out:List Pl):∀ (f:Nat) (p:vB) (l:vL),jav f l->jg1 out (f+1) p l=(absP p l).filter fun e => !je0 (metF [] (f+1) p l) out e.1:=by
 intro f;induction f with
 | zero =>
  intro p l h;rw[jg1,metF,jgk h,if_neg (cH)]
  by_cases ho:(p,refT l)∈out
  ·rw[if_pos ho,eq_comm,gX]
   intro e o;rw[jf0,jll o];simp[ho]
  ·rw[if_neg ho,eq_comm]
   show _=ownP p l++[];rw[bU,show ownP p l=absP p l by unfold ownP;rw[if_pos (jbD h)],List.filter_eq_self];intro e o;rw[jf0];simp[ho,je0]
 | succ f ih =>
  intro p l h;rw[jg1,metF,if_neg (cH)]
  by_cases ho:(p,refT l)∈out
  ·rw[if_pos ho,eq_comm,gX]
   intro e o;rw[jf0,jll o];simp[ho]
  ·rw[if_neg ho,jmR out p h ih]
   refine List.filter_congr fun e o=>?_;rw[jf0,decide_eq_false ho];rfl
structure jkt(f:Nat)(p:vB)(l:vL)(q:Pl)(m:vL):Prop where
 rows:jav 12 m
 ne:m≠[]
 ref:q.2=refT m
 up:∀ e∈absP q.1 m,e∈absP p l
 down:∀ e∈absP p l,preB q.1 e.1=true->e∈absP q.1 m
 text:∀ x∈jau (jab 13 m),32<=x.size->x∈jau (jab 13 l)
theorem jt9{f:Nat}{l:vL}(h:jav f l):jav 12 l:=⟨fun p e=>⟨(h.size p e).2.1,(h.size p e).2⟩,h.rise⟩
theorem jio{f:Nat}{l:vL}(h:jav f l):jab (f+1) l=jab 13 l:=by
 rcases Nat.le_total f 12 with hf | hf
 ·exact (jjD f 12 l h hf).2
 ·exact (jjD 12 f l (jt9 h) hf).2.symm
theorem jmC{f:Nat}{p:vB}{l:vL}(h:jav (f+1) l){k:vB × vL}(hk:k∈jcr p l){q:Pl}{m:vL}(hq:q∈metF [] (f+1) k.1 k.2)(hP:jkt f k.1 k.2 q m):jkt (f+1) p l q m:=by
 have E:=jgl h k hk
 refine⟨hP.rows,hP.ne,hP.ref,fun e o=>E.abs e (hP.up e o),fun e o J=>?_,fun x K A=>?_⟩
 ·refine hP.down e ?_ J
  have z:=jgS (jk7 f _ _ E.rows q hq) J;rw[jlU p h]at o;rcases bT.1 o with o | o
  ·rw[jmV h hk o]at z;cases z
  ·obtain⟨O,H,o⟩:=cP.1 o
   rcases jom (fun a b h e Q X=>h e X Q) (jj2 p l) k hk O H with rfl | h3
   ·exact o
   ·exact (h3 e.1 z (jll o)).elim
 ·have:=E.text x (by rw[jio E.rows];exact hP.text x K A) A
  rw[jio h]at this;exact this
theorem jws:∀ (f:Nat) (p:vB) (l:vL),jav f l->l≠[]->∀ q∈metF [] (f+1) p l,∃ m,jkt f p l q m:=by
 intro f;induction f with
 | zero =>
  intro p l h A q o;rw[metF,jgk h,if_neg (cH)]at o;rw[bP.1 o]
  exact⟨l,jt9 h,A,rfl,fun e z=>z,fun e z _=>z,fun x E _=>E⟩
 | succ f ih =>
  intro p l h A q o;rw[metF,if_neg (cH)]at o;rcases bM.1 o with rfl | o
  ·exact⟨l,jt9 h,A,rfl,fun e z=>z,fun e z _=>z,fun x E _=>E⟩
  ·obtain⟨k,H,o⟩:=cP.1 o
   have J:=jgl h k H
   obtain⟨m,K⟩:=ih _ _ J.rows J.ne q o
   exact⟨m,jmC h H o K⟩
end Go.Proofs.YtepbencaoiompaaGreatDoor
