/- Lemmas; each is under no condition but those that it states. -/
import Derived.Test.YtmobgkphhbmhbaaGreatDoorPb22
namespace Go.Proofs.YtmobgkphhbmhbaaGreatDoor
set_option linter.unusedSimpArgs false
set_option linter.unusedVariables false
set_option maxRecDepth 100000
set_option maxHeartbeats 16000000
open Go Go.RowKit
def refT(m:vL):vB:=refB (jab 13 m).text
def comP(l:vL):vB:=(l.getD 0 pd).1.extract 0 (comK l)
def absP(p:vB)(l:vL):vL:=l.map fun q=>(p++q.1,q.2)
def jcf(p:vB)(l:vL):List (vB × vL):=
 if l.length<=1 then []else if 0 < comK l then [(p++comP l,jag (comK l) l)]
 else (List.range 16).flatMap fun i=>if (cutL i l).length=0 then []else [(p++nib1 i,jag 1 (cutL i l))]
def ownP(p:vB)(l:vL):vL:=
 if l.length<=1 then absP p l else if 0 < comK l then []else absP p (jnS l)
abbrev Pl:=vB × vB
instance decPl (q:Pl) (out:List Pl):Decidable (q∈out):=decidable_of_iff (out.any (fun x=>decide (q=x))=true) (by simp)
theorem jg7(a b:vB):preB a (a++b)=true:=(jdk _ _).2 ⟨b.data.toList,jcl a b⟩
def metF(out:List Pl):Nat->vB->vL->List Pl
 | 0,_,_=>[]
 | f+1,p,l=>if (p,refT l)∈out then []else (p,refT l) ::(jcf p l).flatMap fun k=>metF out f k.1 k.2
def jgF(out:List Pl):Nat->vB->vL->vL
 | 0,_,_=>[]
 | f+1,p,l=>if (p,refT l)∈out then []else ownP p l++(jcf p l).flatMap fun k=>jgF out f k.1 k.2
theorem jsW(p:vB)(a b:vL):absP p (a++b)=absP p a++absP p b:=bY
theorem jf9(p a:vB)(k:Nat)(l:vL)(h:∀ q∈l,p++q.1=(p++a)++q.1.extract k q.1.size):absP p l=absP (p++a) (jag k l):=by
 unfold absP jag;rw[dE];exact cZ fun q e=>by show (p++q.1,q.2)=((p++a)++q.1.extract k q.1.size,q.2);rw[h q e]
theorem jky{p:vB}{l:vL}{e:Pair}(h:e∈absP p l):preB p e.1=true:=by
 obtain⟨q,_,rfl⟩:=bH.1 h
 exact jg7 _ _
theorem jgw{a b c:vB}(h:preB a b=true)(k:preB b c=true):preB a c=true:=by
 obtain⟨r,h⟩:=(jdk _ _).1 h
 obtain⟨s,k⟩:=(jdk _ _).1 k
 exact (jdk _ _).2 ⟨r++s,by rw[k,h,bW]⟩
structure KidR(f:Nat)(p:vB)(l:vL)(k:vB × vL):Prop where
 rows:jar f k.2
 ne:k.2≠[]
 pre:preB p k.1=true
 more:p.size < k.1.size
 text:∀ x∈jao (jab (f+1) k.2),32<=x.size->x∈jao (jab (f+1+1) l)
 abs:∀ e∈absP k.1 k.2,e∈absP p l
 less:k.2.length<=l.length
theorem jlO(i:Nat):(nib1 i).size=1:=rfl
theorem jfY{f:Nat}{p:vB}{l:vL}(h:jar (f+1) l):∀ k∈jcf p l,KidR f p l k:=by
 intro k o;unfold jcf at o;split at o
 ·cases o
 ·rename_i h1
  have K:2<=l.length:=vO
  have z:=jbr h K;split at o
  ·rename_i h3
   rw[bO.1 o]
   obtain⟨A,E,_,_⟩:=jdW h K h3
   have O:∀ q∈l,p++q.1=(p++comP l)++q.1.extract (comK l) q.1.size:=fun q H=>jmE (by unfold comP;rw[(z q H).1,jeX]);have Q:jaq (jab (f+1)) l=jbt (jab (f+1) (jag (comK l) l)):=by
    unfold jaq;rw[if_neg vO,if_pos h3]
   exact⟨A,E,jg7 _ _,by show p.size < (p++comP l).size;rw[cN];unfold comP;rw[jc9 h K];omega,jhu E A (by rw[Q];exact fun _ X=>X),fun e J=>by rw[jf9 p _ _ l O];exact J,by show (jag _ _).length<=_;rw[jaA];exact bM _⟩
  ·rename_i h3
   obtain⟨i,Z,o⟩:=cO.1 o
   split at o
   ·cases o
   ·rename_i hc
    rw[bO.1 o]
    obtain⟨A,E⟩:=jeL h hc
    refine⟨A,E,jg7 _ _,by show p.size < (p++nib1 i).size;rw[cN,jlO];omega,jhu E A ?_,fun e J=>?_,by show (jag _ _).length<=_;rw[jaA];exact dX _ _⟩
    ·intro T hT
     unfold jaq;rw[if_neg vO,if_neg h3];refine cO.2 ⟨i,Z,?_⟩;rw[if_neg hc];exact hT
    ·have:absP (p++nib1 i) (jag 1 (cutL i l))=absP p (cutL i l):=(jf9 p _ _ _ fun q H=>by
      obtain⟨_,x,r,e1,e2⟩:=jbq H
      exact jmD (k:=0) e1 e2).symm
     rw[this]at J
     obtain⟨q,H,rfl⟩:=bH.1 J
     exact bH.2 ⟨q,(jbq H).1,rfl⟩
theorem jfX{p:vB}{l:vL}(h:jar 0 l):jcf p l=[]:=by unfold jcf;rw[if_pos (jbA h)]
theorem jkZ{f:Nat}(p:vB){l:vL}(h:jar f l):absP p l=ownP p l++(jcf p l).flatMap fun k=>absP k.1 k.2:=by
 unfold ownP jcf
 by_cases h1:l.length<=1
 ·rw[if_pos h1,if_pos h1];simp
 rw[if_neg h1,if_neg h1];have e:=jbr h vO
 by_cases h3:0 < comK l
 ·rw[if_pos h3,if_pos h3]
  simp only[cF,fL,bS,cP];exact jf9 p _ _ l fun q o=>jmE (by unfold comP;rw[(e q o).1,jeX])
 ·rw[if_neg h3,if_neg h3]
  conv=>lhs;rw[jjD h,jsW]
  congr 1
  unfold absP;rw[List.map_flatMap,List.flatMap_assoc]
  congr 1
  funext i
  by_cases hc:(cutL i l).length=0
  ·rw[if_pos hc,bE hc];rfl
  ·rw[if_neg hc]
   simp only[cF,fL,bS];exact jf9 p _ _ _ fun q o=>by
    obtain⟨_,x,r,z,A⟩:=jbq o
    exact jmD (k:=0) z A
theorem jwh{p e:vB}{i j:Nat}(hi:i < 16)(hj:j < 16)(h:preB (p++nib1 i) e=true)(k:preB (p++nib1 j) e=true):i=j:=by
 obtain⟨r,h⟩:=(jdk _ _).1 h
 obtain⟨s,k⟩:=(jdk _ _).1 k
 rw[h,jcl,jcl,bW,bW]at k;have k:=gT k;unfold nib1 at k;simp only[cV,cP,List.cons.injEq]at k
 have:=congrArg UInt8.toNat k.1
 rw[gG,gG]at this;omega
theorem jjl(p:vB)(l:vL):(jcf p l).Pairwise fun k q=>∀ e:vB,preB k.1 e=true->preB q.1 e=true->False:=by
 unfold jcf;split
 ·exact .nil
 split
 ·exact List.pairwise_singleton _ _
 ·have:∀ n,n<=16->((List.range n).flatMap fun i=>if (cutL i l).length=0 then []else [(p++nib1 i,jag 1 (cutL i l))]).Pairwise fun k q:vB × vL=>∀ e:vB,preB k.1 e=true->preB q.1 e=true->False:=fun n=>by
   induction n with
   | zero=>intro _;simp
   | succ n ih =>
    intro H;rw[fW,dL,List.pairwise_append]
    refine⟨ih vO,?_,fun a o b hb e z A=>?_⟩
    ·simp only[cF,fL,bS]
     split
     ·exact .nil
     ·exact List.pairwise_singleton _ _
    ·obtain⟨i,E,o⟩:=cO.1 o
     simp only[cF,fL,bS]at hb;split at o
     ·cases o
     split at hb
     ·cases hb
     rw[bO.1 o]at z;rw[bO.1 hb]at A;have E:=dJ.1 E
     have:=jwh vO vO z A
     omega
  exact this 16 (bM _)
theorem jlX{f:Nat}{p:vB}{l:vL}(h:jar f l){k:vB × vL}(o:k∈jcf p l){e:Pair}(he:e∈ownP p l):preB k.1 e.1=false:=by
 unfold ownP at he
 by_cases h1:l.length<=1
 ·unfold jcf at o;rw[if_pos h1]at o;cases o
 rw[if_neg h1]at he
 by_cases h3:0 < comK l
 ·rw[if_pos h3]at he;cases he
 rw[if_neg h3]at he
 obtain⟨q,A,rfl⟩:=bH.1 he
 have z:=(cH.1 A).2;have z:q.1.size=0:=by simpa using z
 unfold jcf at o;rw[if_neg h1,if_neg h3]at o
 obtain⟨i,_,o⟩:=cO.1 o
 split at o
 ·cases o
 rw[bO.1 o];refine gA.2 fun E=>?_
 have:=jhF E
 simp only[cN,jlO,z]at this;omega
theorem jkl{out:List Pl}:∀ (f:Nat) (p:vB) (l:vL),jar f l->∀ q∈metF out (f+1) p l,preB p q.1=true:=by
 intro f;induction f with
 | zero =>
  intro p l h q e;rw[metF,jfX h]at e;split at e
  ·cases e
  ·rw[bO.1 e];exact (jdk _ _).2 ⟨[],by simp⟩
 | succ f ih =>
  intro p l h q e;rw[metF]at e;split at e
  ·cases e
  rcases bJ.1 e with rfl | e
  ·exact (jdk _ _).2 ⟨[],by simp⟩
  ·obtain⟨k,z,e⟩:=cO.1 e
   have o:=jfY h k z;exact jgw o.pre (ih _ _ o.rows q e)
def jeC(A B:List Pl)(e:vB):Bool:=A.any fun q=>decide (q∈B) && preB q.1 e
theorem jfC(q:Pl)(A B:List Pl)(e:vB):jeC (q :: A) B e=((decide (q∈B) && preB q.1 e) || jeC A B e):=List.any_cons
theorem jro{f:Nat}(out:List Pl)(p:vB)(l:vL)(ks:List (vB × vL))(hK:∀ k∈ks,KidR f p l k)(hA:ks.Pairwise fun k E=>∀ e:vB,preB k.1 e=true->preB E.1 e=true->False)
  (ih:∀ k∈ks,jgF out (f+1) k.1 k.2=(absP k.1 k.2).filter fun e => !jeC (metF [] (f+1) k.1 k.2) out e.1) :
  ∀ o:List (vB × vL),(∀ k∈o,k∈ks)->(∀ k∈ks,∀ E∈o,k=E\/∀ e:vB,preB k.1 e=true->preB E.1 e=true->False)->o.flatMap (fun k=>jgF out (f+1) k.1 k.2)=(o.flatMap fun k=>absP k.1 k.2).filter fun e => !jeC (ks.flatMap fun k=>metF [] (f+1) k.1 k.2) out e.1:=by
 intro o;induction o with
 | nil=>intros;rfl
 | cons k o ih' =>
  intro H O;rw[cF,cF,gR,ih' (fun x J=>H x (bC _ J)) (fun x J y X=>O x J y (bC _ X)),ih k (H k bD)]
  congr 1
  refine List.filter_congr fun e Z=>?_
  congr 1
  have K:=jky Z;unfold jeC;rw[iO,fE,fE];constructor
  ·rintro⟨q,z,h⟩
   exact⟨q,cO.2 ⟨k,H k bD,z⟩,h⟩
  ·rintro⟨q,z,h⟩
   obtain⟨Q,A,z⟩:=cO.1 z
   rcases O Q A k bD with rfl | h3
   ·exact⟨q,z,h⟩
   ·exact (h3 e.1 (jgw (jkl f _ _ (hK Q A).rows q z) (by simpa using (iA.1 h).2)) K).elim
theorem jm9{α:Type}{R:α->α->Prop}(hs:∀ a b,R a b->R b a):∀ {l:List α},l.Pairwise R->∀ a∈l,∀ b∈l,a=b\/R a b
 | x :: l,h,a,ha,b,hb=>by
  rw[cW]at h;rcases bJ.1 ha with e | ha <;> rcases bJ.1 hb with e' | hb
  ·exact .inl (e.trans e'.symm)
  ·exact .inr (e ▸ h.1 _ hb)
  ·exact .inr (e' ▸ hs _ _ (h.1 _ ha))
  ·exact jm9 hs h.2 a ha b hb
theorem jwE{f:Nat}{out:List Pl}{p:vB}{l:vL}(h:jar (f+1) l){e:Pair}(he:e∈ownP p l):jeC ((jcf p l).flatMap fun k=>metF [] (f+1) k.1 k.2) out e.1=false:=by
 unfold jeC;rw[List.any_eq_false];intro q o A
 obtain⟨k,z,o⟩:=cO.1 o
 have:=jlX h z he
 rw[jgw (jkl f _ _ (jfY h k z).rows q o) (by simpa using (iA.1 A).2)]at this;cases this
theorem jlR{f:Nat}(out:List Pl)(p:vB){l:vL}(h:jar (f+1) l)(ih:∀ (p:vB) (l:vL),jar f l->jgF out (f+1) p l=(absP p l).filter fun e => !jeC (metF [] (f+1) p l) out e.1) :
  ownP p l++(jcf p l).flatMap (fun k=>jgF out (f+1) k.1 k.2)=(absP p l).filter fun e => !jeC ((jcf p l).flatMap fun k=>metF [] (f+1) k.1 k.2) out e.1:=by
 have o:=jfY (p:=p) h;have q:=jjl p l
 conv=>rhs;rw[jkZ p h,gR]
 congr 1
 ·rw[List.filter_eq_self.2]
  intro e z;rw[jwE h z];rfl
 ·exact jro out p l (jcf p l) o q (fun k A=>ih _ _ (o k A).rows) (jcf p l) (fun _ h=>h) (jm9 (fun a b h e E H=>h e H E) q)
theorem jnq(out:List Pl):∀ (f:Nat) (p:vB) (l:vL),jar f l->jgF out (f+1) p l=(absP p l).filter fun e => !jeC (metF [] (f+1) p l) out e.1:=by
 intro f;induction f with
 | zero =>
  intro p l h;rw[jgF,metF,jfX h,if_neg (cJ)]
  by_cases ho:(p,refT l)∈out
  ·rw[if_pos ho,eq_comm,gV]
   intro e o;rw[jfC,jky o];simp[ho]
  ·rw[if_neg ho,eq_comm]
   show _=ownP p l++[];rw[bS,show ownP p l=absP p l by unfold ownP;rw[if_pos (jbA h)],List.filter_eq_self];intro e o;rw[jfC];simp[ho,jeC]
 | succ f ih =>
  intro p l h;rw[jgF,metF,if_neg (cJ)]
  by_cases ho:(p,refT l)∈out
  ·rw[if_pos ho,eq_comm,gV]
   intro e o;rw[jfC,jky o];simp[ho]
  ·rw[if_neg ho,jlR out p h ih]
   refine List.filter_congr fun e o=>?_;rw[jfC,decide_eq_false ho];rfl
structure jjL(f:Nat)(p:vB)(l:vL)(q:Pl)(m:vL):Prop where
 rows:jar 12 m
 ne:m≠[]
 ref:q.2=refT m
 up:∀ e∈absP q.1 m,e∈absP p l
 down:∀ e∈absP p l,preB q.1 e.1=true->e∈absP q.1 m
 text:∀ x∈jao (jab 13 m),32<=x.size->x∈jao (jab 13 l)
theorem jsr{f:Nat}{l:vL}(h:jar f l):jar 12 l:=⟨fun p e=>⟨(h.size p e).2.1,(h.size p e).2⟩,h.rise⟩
theorem jhP{f:Nat}{l:vL}(h:jar f l):jab (f+1) l=jab 13 l:=by
 rcases Nat.le_total f 12 with hf | hf
 ·exact (jiZ f 12 l h hf).2
 ·exact (jiZ 12 f l (jsr h) hf).2.symm
theorem jlD{f:Nat}{p:vB}{l:vL}(h:jar (f+1) l){k:vB × vL}(hk:k∈jcf p l){q:Pl}{m:vL}(hq:q∈metF [] (f+1) k.1 k.2)(hP:jjL f k.1 k.2 q m):jjL (f+1) p l q m:=by
 have E:=jfY h k hk
 refine⟨hP.rows,hP.ne,hP.ref,fun e o=>E.abs e (hP.up e o),fun e o J=>?_,fun x K A=>?_⟩
 ·refine hP.down e ?_ J
  have z:=jgw (jkl f _ _ E.rows q hq) J;rw[jkZ p h]at o;rcases bR.1 o with o | o
  ·rw[jlX h hk o]at z;cases z
  ·obtain⟨O,H,o⟩:=cO.1 o
   rcases jm9 (fun a b h e Q X=>h e X Q) (jjl p l) k hk O H with rfl | h3
   ·exact o
   ·exact (h3 e.1 z (jky o)).elim
 ·have:=E.text x (by rw[jhP E.rows];exact hP.text x K A) A
  rw[jhP h]at this;exact this
theorem jud:∀ (f:Nat) (p:vB) (l:vL),jar f l->l≠[]->∀ q∈metF [] (f+1) p l,∃ m,jjL f p l q m:=by
 intro f;induction f with
 | zero =>
  intro p l h A q o;rw[metF,jfX h,if_neg (cJ)]at o;rw[bO.1 o]
  exact⟨l,jsr h,A,rfl,fun e z=>z,fun e z _=>z,fun x E _=>E⟩
 | succ f ih =>
  intro p l h A q o;rw[metF,if_neg (cJ)]at o;rcases bJ.1 o with rfl | o
  ·exact⟨l,jsr h,A,rfl,fun e z=>z,fun e z _=>z,fun x E _=>E⟩
  ·obtain⟨k,H,o⟩:=cO.1 o
   have J:=jfY h k H
   obtain⟨m,K⟩:=ih _ _ J.rows J.ne q o
   exact⟨m,jlD h H o K⟩
end Go.Proofs.YtmobgkphhbmhbaaGreatDoor
