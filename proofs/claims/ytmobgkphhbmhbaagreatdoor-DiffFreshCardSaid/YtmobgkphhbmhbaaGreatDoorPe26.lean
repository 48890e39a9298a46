/- Lemmas; each is under no condition but those that it states. -/
import Derived.Test.YtmobgkphhbmhbaaGreatDoorPe22
namespace Go.Proofs.YtmobgkphhbmhbaaGreatDoor
set_option linter.unusedSimpArgs false
set_option linter.unusedVariables false
set_option maxRecDepth 100000
set_option maxHeartbeats 16000000
open Go Go.RowKit
def refT(m:vL):vB:=refB (jab 13 m).text
def comP(l:vL):vB:=(l.getD 0 pd).1.extract 0 (comK l)
def absP(p:vB)(l:vL):vL:=l.map fun q=>(p++q.1,q.2)
def jb9(p:vB)(l:vL):List (vB × vL):=
 if l.length<=1 then []else if 0 < comK l then [(p++comP l,jag (comK l) l)]
 else (List.range 16).flatMap fun i=>if (cutL i l).length=0 then []else [(p++nib1 i,jag 1 (cutL i l))]
def ownP(p:vB)(l:vL):vL:=
 if l.length<=1 then absP p l else if 0 < comK l then []else absP p (jnM l)
abbrev Pl:=vB × vB
instance decPl (q:Pl) (out:List Pl):Decidable (q∈out):=decidable_of_iff (out.any (fun x=>decide (q=x))=true) (by simp)
theorem jg8(a b:vB):preB a (a++b)=true:=(jdk _ _).2 ⟨b.data.toList,jch a b⟩
def metF(out:List Pl):Nat->vB->vL->List Pl
 | 0,_,_=>[]
 | f+1,p,l=>if (p,refT l)∈out then []else (p,refT l) ::(jb9 p l).flatMap fun k=>metF out f k.1 k.2
def jgC(out:List Pl):Nat->vB->vL->vL
 | 0,_,_=>[]
 | f+1,p,l=>if (p,refT l)∈out then []else ownP p l++(jb9 p l).flatMap fun k=>jgC out f k.1 k.2
theorem js6(p:vB)(a b:vL):absP p (a++b)=absP p a++absP p b:=bY
theorem jgb(p a:vB)(k:Nat)(l:vL)(h:∀ q∈l,p++q.1=(p++a)++q.1.extract k q.1.size):absP p l=absP (p++a) (jag k l):=by
 unfold absP jag;rw[cT];exact cS fun q e=>by show (p++q.1,q.2)=((p++a)++q.1.extract k q.1.size,q.2);rw[h q e]
theorem jkn{p:vB}{l:vL}{e:Pair}(h:e∈absP p l):preB p e.1=true:=by
 obtain⟨q,_,rfl⟩:=bC.1 h
 exact jg8 _ _
theorem jgx{a b c:vB}(h:preB a b=true)(k:preB b c=true):preB a c=true:=by
 obtain⟨r,h⟩:=(jdk _ _).1 h
 obtain⟨s,k⟩:=(jdk _ _).1 k
 exact (jdk _ _).2 ⟨r++s,by rw[k,h,bX]⟩
structure KidR(f:Nat)(p:vB)(l:vL)(k:vB × vL):Prop where
 rows:jaq f k.2
 ne:k.2≠[]
 pre:preB p k.1=true
 more:p.size < k.1.size
 text:∀ x∈jam (jab (f+1) k.2),32<=x.size->x∈jam (jab (f+1+1) l)
 abs:∀ e∈absP k.1 k.2,e∈absP p l
 less:k.2.length<=l.length
theorem jlF(i:Nat):(nib1 i).size=1:=rfl
theorem jfX{f:Nat}{p:vB}{l:vL}(h:jaq (f+1) l):∀ k∈jb9 p l,KidR f p l k:=by
 intro k o;unfold jb9 at o;split at o
 ·cases o
 ·rename_i h1
  have O:2<=l.length:=vO
  have z:=jbq h O;split at o
  ·rename_i h3
   rw[bS.1 o]
   obtain⟨E,H,_,_⟩:=jd0 h O h3
   have Q:∀ q∈l,p++q.1=(p++comP l)++q.1.extract (comK l) q.1.size:=fun q J=>jmt (by unfold comP;rw[(z q J).1,jeZ]);have X:jan (jab (f+1)) l=jbw (jab (f+1) (jag (comK l) l)):=by
    unfold jan;rw[if_neg vO,if_pos h3]
   exact⟨E,H,jg8 _ _,by show p.size < (p++comP l).size;rw[cO];unfold comP;rw[jdb h O];omega,jhz H E (by rw[X];exact fun _ Z=>Z),fun e K=>by rw[jgb p _ _ l Q];exact K,by show (jag _ _).length<=_;rw[jaA];exact bM _⟩
  ·rename_i h3
   obtain⟨i,hi,o⟩:=cI.1 o
   split at o
   ·cases o
   ·rename_i hc
    rw[bS.1 o]
    obtain⟨E,H⟩:=jeO h hc
    refine⟨E,H,jg8 _ _,by show p.size < (p++nib1 i).size;rw[cO,jlF];omega,jhz H E ?_,fun e K=>?_,by show (jag _ _).length<=_;rw[jaA];exact dX _ _⟩
    ·intro T hT
     unfold jan;rw[if_neg vO,if_neg h3];refine cI.2 ⟨i,hi,?_⟩;rw[if_neg hc];exact hT
    ·have:absP (p++nib1 i) (jag 1 (cutL i l))=absP p (cutL i l):=(jgb p _ _ _ fun q J=>by
      obtain⟨_,x,r,e1,e2⟩:=jbp J
      exact jms (k:=0) e1 e2).symm
     rw[this]at K
     obtain⟨q,J,rfl⟩:=bC.1 K
     exact bC.2 ⟨q,(jbp J).1,rfl⟩
theorem jfW{p:vB}{l:vL}(h:jaq 0 l):jb9 p l=[]:=by unfold jb9;rw[if_pos (jbv h)]
theorem jkP{f:Nat}(p:vB){l:vL}(h:jaq f l):absP p l=ownP p l++(jb9 p l).flatMap fun k=>absP k.1 k.2:=by
 unfold ownP jb9
 by_cases h1:l.length<=1
 ·rw[if_pos h1,if_pos h1];simp
 rw[if_neg h1,if_neg h1];have e:=jbq h vO
 by_cases h3:0 < comK l
 ·rw[if_pos h3,if_pos h3]
  simp only[cE,fM,bR,cP];exact jgb p _ _ l fun q o=>jmt (by unfold comP;rw[(e q o).1,jeZ])
 ·rw[if_neg h3,if_neg h3]
  conv=>lhs;rw[jjA h,js6]
  congr 1
  unfold absP;rw[List.map_flatMap,List.flatMap_assoc]
  congr 1
  funext i
  by_cases hc:(cutL i l).length=0
  ·rw[if_pos hc,bE hc];rfl
  ·rw[if_neg hc]
   simp only[cE,fM,bR];exact jgb p _ _ _ fun q o=>by
    obtain⟨_,x,r,z,E⟩:=jbp o
    exact jms (k:=0) z E
theorem jwC{p e:vB}{i j:Nat}(hi:i < 16)(hj:j < 16)(h:preB (p++nib1 i) e=true)(k:preB (p++nib1 j) e=true):i=j:=by
 obtain⟨r,h⟩:=(jdk _ _).1 h
 obtain⟨s,k⟩:=(jdk _ _).1 k
 rw[h,jch,jch,bX,bX]at k;have k:=gX k;unfold nib1 at k;simp only[cX,cP,List.cons.injEq]at k
 have:=congrArg UInt8.toNat k.1
 rw[gH,gH]at this;omega
theorem jjk(p:vB)(l:vL):(jb9 p l).Pairwise fun k q=>∀ e:vB,preB k.1 e=true->preB q.1 e=true->False:=by
 unfold jb9;split
 ·exact .nil
 split
 ·exact List.pairwise_singleton _ _
 ·have:∀ n,n<=16->((List.range n).flatMap fun i=>if (cutL i l).length=0 then []else [(p++nib1 i,jag 1 (cutL i l))]).Pairwise fun k q:vB × vL=>∀ e:vB,preB k.1 e=true->preB q.1 e=true->False:=fun n=>by
   induction n with
   | zero=>intro _;simp
   | succ n ih =>
    intro J;rw[fX,dK,List.pairwise_append]
    refine⟨ih vO,?_,fun a o b hb e z E=>?_⟩
    ·simp only[cE,fM,bR]
     split
     ·exact .nil
     ·exact List.pairwise_singleton _ _
    ·obtain⟨i,H,o⟩:=cI.1 o
     simp only[cE,fM,bR]at hb;split at o
     ·cases o
     split at hb
     ·cases hb
     rw[bS.1 o]at z;rw[bS.1 hb]at E;have H:=dQ.1 H
     have:=jwC vO vO z E
     omega
  exact this 16 (bM _)
theorem jlM{f:Nat}{p:vB}{l:vL}(h:jaq f l){k:vB × vL}(o:k∈jb9 p l){e:Pair}(he:e∈ownP p l):preB k.1 e.1=false:=by
 unfold ownP at he
 by_cases h1:l.length<=1
 ·unfold jb9 at o;rw[if_pos h1]at o;cases o
 rw[if_neg h1]at he
 by_cases h3:0 < comK l
 ·rw[if_pos h3]at he;cases he
 rw[if_neg h3]at he
 obtain⟨q,E,rfl⟩:=bC.1 he
 have z:=(cH.1 E).2;have z:q.1.size=0:=by simpa using z
 unfold jb9 at o;rw[if_neg h1,if_neg h3]at o
 obtain⟨i,_,o⟩:=cI.1 o
 split at o
 ·cases o
 rw[bS.1 o];refine gC.2 fun H=>?_
 have:=jko H
 simp only[cO,jlF,z]at this;omega
theorem jkb{out:List Pl}:∀ (f:Nat) (p:vB) (l:vL),jaq f l->∀ q∈metF out (f+1) p l,preB p q.1=true:=by
 intro f;induction f with
 | zero =>
  intro p l h q e;rw[metF,jfW h]at e;split at e
  ·cases e
  ·rw[bS.1 e];exact (jdk _ _).2 ⟨[],by simp⟩
 | succ f ih =>
  intro p l h q e;rw[metF]at e;split at e
  ·cases e
  rcases bK.1 e with rfl | e
  ·exact (jdk _ _).2 ⟨[],by simp⟩
  ·obtain⟨k,z,e⟩:=cI.1 e
   have o:=jfX h k z;exact jgx o.pre (ih _ _ o.rows q e)
def jeA(A B:List Pl)(e:vB):Bool:=A.any fun q=>decide (q∈B) && preB q.1 e
theorem jfE(q:Pl)(A B:List Pl)(e:vB):jeA (q :: A) B e=((decide (q∈B) && preB q.1 e) || jeA A B e):=List.any_cons
theorem jru{f:Nat}(out:List Pl)(p:vB)(l:vL)(ks:List (vB × vL))(hK:∀ k∈ks,KidR f p l k)(hA:ks.Pairwise fun k H=>∀ e:vB,preB k.1 e=true->preB H.1 e=true->False)
  (ih:∀ k∈ks,jgC out (f+1) k.1 k.2=(absP k.1 k.2).filter fun e => !jeA (metF [] (f+1) k.1 k.2) out e.1) :
  ∀ o:List (vB × vL),(∀ k∈o,k∈ks)->(∀ k∈ks,∀ H∈o,k=H\/∀ e:vB,preB k.1 e=true->preB H.1 e=true->False)->o.flatMap (fun k=>jgC out (f+1) k.1 k.2)=(o.flatMap fun k=>absP k.1 k.2).filter fun e => !jeA (ks.flatMap fun k=>metF [] (f+1) k.1 k.2) out e.1:=by
 intro o;induction o with
 | nil=>intros;rfl
 | cons k o ih' =>
  intro J Q;rw[cE,cE,gW,ih' (fun x K=>J x (bD _ K)) (fun x K y Z=>Q x K y (bD _ Z)),ih k (J k bF)]
  congr 1
  refine List.filter_congr fun e he=>?_
  congr 1
  have O:=jkn he;unfold jeA;rw[iW,fN,fN];constructor
  ·rintro⟨q,z,h⟩
   exact⟨q,cI.2 ⟨k,J k bF,z⟩,h⟩
  ·rintro⟨q,z,h⟩
   obtain⟨X,E,z⟩:=cI.1 z
   rcases Q X E k bF with rfl | h3
   ·exact⟨q,z,h⟩
   ·exact (h3 e.1 (jgx (jkb f _ _ (hK X E).rows q z) (by simpa using (iE.1 h).2)) O).elim
theorem jm2{α:Type}{R:α->α->Prop}(hs:∀ a b,R a b->R b a):∀ {l:List α},l.Pairwise R->∀ a∈l,∀ b∈l,a=b\/R a b
 | x :: l,h,a,ha,b,hb=>by
  rw[cY]at h;rcases bK.1 ha with e | ha <;> rcases bK.1 hb with e' | hb
  ·exact .inl (e.trans e'.symm)
  ·exact .inr (e ▸ h.1 _ hb)
  ·exact .inr (e' ▸ hs _ _ (h.1 _ ha))
  ·exact jm2 hs h.2 a ha b hb
theorem jw3{f:Nat}{out:List Pl}{p:vB}{l:vL}(h:jaq (f+1) l){e:Pair}(he:e∈ownP p l):jeA ((jb9 p l).flatMap fun k=>metF [] (f+1) k.1 k.2) out e.1=false:=by
 unfold jeA;rw[List.any_eq_false];intro q o E
 obtain⟨k,z,o⟩:=cI.1 o
 have:=jlM h z he
 rw[jgx (jkb f _ _ (jfX h k z).rows q o) (by simpa using (iE.1 E).2)]at this;cases this
theorem jlI{f:Nat}(out:List Pl)(p:vB){l:vL}(h:jaq (f+1) l)(ih:∀ (p:vB) (l:vL),jaq f l->jgC out (f+1) p l=(absP p l).filter fun e => !jeA (metF [] (f+1) p l) out e.1) :
  ownP p l++(jb9 p l).flatMap (fun k=>jgC out (f+1) k.1 k.2)=(absP p l).filter fun e => !jeA ((jb9 p l).flatMap fun k=>metF [] (f+1) k.1 k.2) out e.1:=by
 have o:=jfX (p:=p) h;have q:=jjk p l
 conv=>rhs;rw[jkP p h,gW]
 congr 1
 ·rw[gU.2]
  intro e z;rw[jw3 h z];rfl
 ·exact jru out p l (jb9 p l) o q (fun k E=>ih _ _ (o k E).rows) (jb9 p l) (fun _ h=>h) (jm2 (fun a b h e H J=>h e J H) q)
theorem jnj(out:List Pl):∀ (f:Nat) (p:vB) (l:vL),jaq f l->jgC out (f+1) p l=(absP p l).filter fun e => !jeA (metF [] (f+1) p l) out e.1:=by
 intro f;induction f with
 | zero =>
  intro p l h;rw[jgC,metF,jfW h,if_neg (cM)]
  by_cases ho:(p,refT l)∈out
  ·rw[if_pos ho,eq_comm,gZ]
   intro e o;rw[jfE,jkn o];simp[ho]
  ·rw[if_neg ho,eq_comm]
   show _=ownP p l++[];rw[bR,show ownP p l=absP p l by unfold ownP;rw[if_pos (jbv h)],gU];intro e o;rw[jfE];simp[ho,jeA]
 | succ f ih =>
  intro p l h;rw[jgC,metF,if_neg (cM)]
  by_cases ho:(p,refT l)∈out
  ·rw[if_pos ho,eq_comm,gZ]
   intro e o;rw[jfE,jkn o];simp[ho]
  ·rw[if_neg ho,jlI out p h ih]
   refine List.filter_congr fun e o=>?_;rw[jfE,decide_eq_false ho];rfl
structure jjK(f:Nat)(p:vB)(l:vL)(q:Pl)(m:vL):Prop where
 rows:jaq 12 m
 ne:m≠[]
 ref:q.2=refT m
 up:∀ e∈absP q.1 m,e∈absP p l
 down:∀ e∈absP p l,preB q.1 e.1=true->e∈absP q.1 m
 text:∀ x∈jam (jab 13 m),32<=x.size->x∈jam (jab 13 l)
theorem jsB{f:Nat}{l:vL}(h:jaq f l):jaq 12 l:=⟨fun p e=>⟨(h.size p e).2.1,(h.size p e).2⟩,h.rise⟩
theorem jhP{f:Nat}{l:vL}(h:jaq f l):jab (f+1) l=jab 13 l:=by
 rcases Nat.le_total f 12 with hf | hf
 ·exact (jfk f 12 l h hf).2
 ·exact (jfk 12 f l (jsB h) hf).2.symm
theorem jls{f:Nat}{p:vB}{l:vL}(h:jaq (f+1) l){k:vB × vL}(hk:k∈jb9 p l){q:Pl}{m:vL}(hq:q∈metF [] (f+1) k.1 k.2)(hP:jjK f k.1 k.2 q m):jjK (f+1) p l q m:=by
 have H:=jfX h k hk
 refine⟨hP.rows,hP.ne,hP.ref,fun e o=>H.abs e (hP.up e o),fun e o K=>?_,fun x O E=>?_⟩
 ·refine hP.down e ?_ K
  have z:=jgx (jkb f _ _ H.rows q hq) K;rw[jkP p h]at o;rcases bO.1 o with o | o
  ·rw[jlM h hk o]at z;cases z
  ·obtain⟨Q,J,o⟩:=cI.1 o
   rcases jm2 (fun a b h e X Z=>h e Z X) (jjk p l) k hk Q J with rfl | h3
   ·exact o
   ·exact (h3 e.1 z (jkn o)).elim
 ·have:=H.text x (by rw[jhP H.rows];exact hP.text x O E) E
  rw[jhP h]at this;exact this
theorem jus:∀ (f:Nat) (p:vB) (l:vL),jaq f l->l≠[]->∀ q∈metF [] (f+1) p l,∃ m,jjK f p l q m:=by
 intro f;induction f with
 | zero =>
  intro p l h E q o;rw[metF,jfW h,if_neg (cM)]at o;rw[bS.1 o]
  exact⟨l,jsB h,E,rfl,fun e z=>z,fun e z _=>z,fun x H _=>H⟩
 | succ f ih =>
  intro p l h E q o;rw[metF,if_neg (cM)]at o;rcases bK.1 o with rfl | o
  ·exact⟨l,jsB h,E,rfl,fun e z=>z,fun e z _=>z,fun x H _=>H⟩
  ·obtain⟨k,J,o⟩:=cI.1 o
   have K:=jfX h k J
   obtain⟨m,O⟩:=ih _ _ K.rows K.ne q o
   exact⟨m,jls h J o O⟩
end Go.Proofs.YtmobgkphhbmhbaaGreatDoor
