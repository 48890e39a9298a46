/- Lemmas; each is under no condition but those that it states. -/
import Derived.Test.YtdofbjccfkaijaaGreatDoorPn21
namespace Go.Proofs.YtdofbjccfkaijaaGreatDoor
set_option linter.unusedSimpArgs false
set_option linter.unusedVariables false
set_option maxRecDepth 100000
set_option maxHeartbeats 16000000
open Go Go.RowKit
def refT(m:vL):vB:=refB (jac 13 m).text
def comP(l:vL):vB:=(l.getD 0 pd).1.extract 0 (comK l)
def absP(p:vB)(l:vL):vL:=l.map fun q=>(p++q.1,q.2)
def jck(p:vB)(l:vL):List (vB × vL):=
 if l.length<=1 then []else if 0 < comK l then [(p++comP l,jak (comK l) l)]
 else (List.range 16).flatMap fun i=>if (cutL i l).length=0 then []else [(p++nib1 i,jak 1 (cutL i l))]
def ownP(p:vB)(l:vL):vL:=
 if l.length<=1 then absP p l else if 0 < comK l then []else absP p (joO l)
abbrev Pl:=vB × vB
instance decPl (q:Pl) (out:List Pl):Decidable (q∈out):=decidable_of_iff (out.any (fun x=>decide (q=x))=true) (by simp)
theorem jhw(a b:vB):preB a (a++b)=true:=(jdt _ _).2 ⟨b.data.toList,jcs a b⟩
def metF(out:List Pl):Nat->vB->vL->List Pl
 | 0,_,_=>[]
 | f+1,p,l=>if (p,refT l)∈out then []else (p,refT l) ::(jck p l).flatMap fun k=>metF out f k.1 k.2
def jgY(out:List Pl):Nat->vB->vL->vL
 | 0,_,_=>[]
 | f+1,p,l=>if (p,refT l)∈out then []else ownP p l++(jck p l).flatMap fun k=>jgY out f k.1 k.2
theorem juz(p:vB)(a b:vL):absP p (a++b)=absP p a++absP p b:=cB
theorem jgr(p a:vB)(k:Nat)(l:vL)(h:∀ q∈l,p++q.1=(p++a)++q.1.extract k q.1.size):absP p l=absP (p++a) (jak k l):=by
 unfold absP jak;rw[dJ];exact dI fun q e=>by show (p++q.1,q.2)=((p++a)++q.1.extract k q.1.size,q.2);rw[h q e]
theorem jk0{p:vB}{l:vL}{e:Pair}(h:e∈absP p l):preB p e.1=true:=by
 obtain⟨q,_,rfl⟩:=bJ.1 h
 exact jhw _ _
theorem jgR{a b c:vB}(h:preB a b=true)(k:preB b c=true):preB a c=true:=by
 obtain⟨r,h⟩:=(jdt _ _).1 h
 obtain⟨s,k⟩:=(jdt _ _).1 k
 exact (jdt _ _).2 ⟨r++s,by rw[k,h,cD]⟩
structure KidR(f:Nat)(p:vB)(l:vL)(k:vB × vL):Prop where
 rows:jas f k.2
 ne:k.2≠[]
 pre:preB p k.1=true
 more:p.size < k.1.size
 text:∀ x∈jax (jac (f+1) k.2),32<=x.size->x∈jax (jac (f+1+1) l)
 abs:∀ e∈absP k.1 k.2,e∈absP p l
 less:k.2.length<=l.length
theorem jml(i:Nat):(nib1 i).size=1:=rfl
theorem jgd{f:Nat}{p:vB}{l:vL}(h:jas (f+1) l):∀ k∈jck p l,KidR f p l k:=by
 intro k o;unfold jck at o;split at o
 ·cases o
 ·rename_i h1
  have K:2<=l.length:=vO
  have z:=jbl h K;split at o
  ·rename_i h3
   rw[bZ.1 o]
   obtain⟨A,E,_,_⟩:=jef h K h3
   have O:∀ q∈l,p++q.1=(p++comP l)++q.1.extract (comK l) q.1.size:=fun q H=>jnm (by unfold comP;rw[(z q H).1,jfe]);have Q:jav (jac (f+1)) l=jbF (jac (f+1) (jak (comK l) l)):=by
    unfold jav;rw[if_neg vO,if_pos h3]
   exact⟨A,E,jhw _ _,by show p.size < (p++comP l).size;rw[bU];unfold comP;rw[jdg h K];omega,jhX E A (by rw[Q];exact fun _ X=>X),fun e J=>by rw[jgr p _ _ l O];exact J,by show (jak _ _).length<=_;rw[jaJ];exact bL _⟩
  ·rename_i h3
   obtain⟨i,Z,o⟩:=cR.1 o
   split at o
   ·cases o
   ·rename_i hc
    rw[bZ.1 o]
    obtain⟨A,E⟩:=je3 h hc
    refine⟨A,E,jhw _ _,by show p.size < (p++nib1 i).size;rw[bU,jml];omega,jhX E A ?_,fun e J=>?_,by show (jak _ _).length<=_;rw[jaJ];exact dQ _ _⟩
    ·intro T hT
     unfold jav;rw[if_neg vO,if_neg h3];refine cR.2 ⟨i,Z,?_⟩;rw[if_neg hc];exact hT
    ·have:absP (p++nib1 i) (jak 1 (cutL i l))=absP p (cutL i l):=(jgr p _ _ _ fun q H=>by
      obtain⟨_,x,r,e1,e2⟩:=jbz H
      exact jnl (k:=0) e1 e2).symm
     rw[this]at J
     obtain⟨q,H,rfl⟩:=bJ.1 J
     exact bJ.2 ⟨q,(jbz H).1,rfl⟩
theorem jgc{p:vB}{l:vL}(h:jas 0 l):jck p l=[]:=by unfold jck;rw[if_pos (jbI h)]
theorem jlv{f:Nat}(p:vB){l:vL}(h:jas f l):absP p l=ownP p l++(jck p l).flatMap fun k=>absP k.1 k.2:=by
 unfold ownP jck
 by_cases h1:l.length<=1
 ·rw[if_pos h1,if_pos h1];simp
 rw[if_neg h1,if_neg h1];have e:=jbl h vO
 by_cases h3:0 < comK l
 ·rw[if_pos h3,if_pos h3]
  simp only[cH,fU,bW,cP];exact jgr p _ _ l fun q o=>jnm (by unfold comP;rw[(e q o).1,jfe])
 ·rw[if_neg h3,if_neg h3]
  conv=>lhs;rw[jj8 h,juz]
  congr 1
  unfold absP;rw[List.map_flatMap,List.flatMap_assoc]
  congr 1
  funext i
  by_cases hc:(cutL i l).length=0
  ·rw[if_pos hc,bD hc];rfl
  ·rw[if_neg hc]
   simp only[cH,fU,bW];exact jgr p _ _ _ fun q o=>by
    obtain⟨_,x,r,z,A⟩:=jbz o
    exact jnl (k:=0) z A
theorem jyi{p e:vB}{i j:Nat}(hi:i < 16)(hj:j < 16)(h:preB (p++nib1 i) e=true)(k:preB (p++nib1 j) e=true):i=j:=by
 obtain⟨r,h⟩:=(jdt _ _).1 h
 obtain⟨s,k⟩:=(jdt _ _).1 k
 rw[h,jcs,jcs,cD,cD]at k;have k:=gY k;unfold nib1 at k;simp only[cZ,cP,List.cons.injEq]at k
 have:=congrArg UInt8.toNat k.1
 rw[fF,fF]at this;omega
theorem jjT(p:vB)(l:vL):(jck p l).Pairwise fun k z=>∀ e:vB,preB k.1 e=true->preB z.1 e=true->False:=by
 unfold jck;split
 ·exact .nil
 split
 ·exact List.pairwise_singleton _ _
 ·have:∀ n,n<=16->((List.range n).flatMap fun i=>if (cutL i l).length=0 then []else [(p++nib1 i,jak 1 (cutL i l))]).Pairwise fun k z:vB × vL=>∀ e:vB,preB k.1 e=true->preB z.1 e=true->False:=fun n=>by
   induction n with
   | zero=>intro _;simp
   | succ n ih =>
    intro J;rw[fS,dR,List.pairwise_append]
    refine⟨ih vO,?_,fun a o b hb e A E=>?_⟩
    ·simp only[cH,fU,bW]
     split
     ·exact .nil
     ·exact List.pairwise_singleton _ _
    ·obtain⟨i,H,o⟩:=cR.1 o
     simp only[cH,fU,bW]at hb;split at o
     ·cases o
     split at hb
     ·cases hb
     rw[bZ.1 o]at A;rw[bZ.1 hb]at E;have H:=dW.1 H
     have:=jyi vO vO A E
     omega
  exact this 16 (bL _)
theorem jmu{f:Nat}{p:vB}{l:vL}(h:jas f l){k:vB × vL}(o:k∈jck p l){e:Pair}(he:e∈ownP p l):preB k.1 e.1=false:=by
 unfold ownP at he
 by_cases h1:l.length<=1
 ·unfold jck at o;rw[if_pos h1]at o;cases o
 rw[if_neg h1]at he
 by_cases h3:0 < comK l
 ·rw[if_pos h3]at he;cases he
 rw[if_neg h3]at he
 obtain⟨q,A,rfl⟩:=bJ.1 he
 have z:=(cM.1 A).2;have z:q.1.size=0:=by simpa using z
 unfold jck at o;rw[if_neg h1,if_neg h3]at o
 obtain⟨i,_,o⟩:=cR.1 o
 split at o
 ·cases o
 rw[bZ.1 o];refine fP.2 fun E=>?_
 have:=jk1 E
 simp only[bU,jml,z]at this;omega
theorem jkM{out:List Pl}:∀ (f:Nat) (p:vB) (l:vL),jas f l->∀ q∈metF out (f+1) p l,preB p q.1=true:=by
 intro f;induction f with
 | zero =>
  intro p l h q e;rw[metF,jgc h]at e;split at e
  ·cases e
  ·rw[bZ.1 e];exact (jdt _ _).2 ⟨[],by simp⟩
 | succ f ih =>
  intro p l h q e;rw[metF]at e;split at e
  ·cases e
  rcases bM.1 e with rfl | e
  ·exact (jdt _ _).2 ⟨[],by simp⟩
  ·obtain⟨k,z,e⟩:=cR.1 e
   have o:=jgd h k z;exact jgR o.pre (ih _ _ o.rows q e)
def jeS(A B:List Pl)(e:vB):Bool:=A.any fun q=>decide (q∈B) && preB q.1 e
theorem jfU(q:Pl)(A B:List Pl)(e:vB):jeS (q :: A) B e=((decide (q∈B) && preB q.1 e) || jeS A B e):=List.any_cons
theorem jsE{f:Nat}(out:List Pl)(p:vB)(l:vL)(ks:List (vB × vL))(hK:∀ k∈ks,KidR f p l k)(hA:ks.Pairwise fun k E=>∀ e:vB,preB k.1 e=true->preB E.1 e=true->False)
  (ih:∀ k∈ks,jgY out (f+1) k.1 k.2=(absP k.1 k.2).filter fun e => !jeS (metF [] (f+1) k.1 k.2) out e.1) :
  ∀ o:List (vB × vL),(∀ k∈o,k∈ks)->(∀ k∈ks,∀ E∈o,k=E\/∀ e:vB,preB k.1 e=true->preB E.1 e=true->False)->o.flatMap (fun k=>jgY out (f+1) k.1 k.2)=(o.flatMap fun k=>absP k.1 k.2).filter fun e => !jeS (ks.flatMap fun k=>metF [] (f+1) k.1 k.2) out e.1:=by
 intro o;induction o with
 | nil=>intros;rfl
 | cons k o ih' =>
  intro H O;rw[cH,cH,gM,ih' (fun x J=>H x (bE _ J)) (fun x J y X=>O x J y (bE _ X)),ih k (H k bH)]
  congr 1
  refine List.filter_congr fun e Z=>?_
  congr 1
  have K:=jk0 Z;unfold jeS;rw[jC,fO,fO];constructor
  ·rintro⟨q,z,h⟩
   exact⟨q,cR.2 ⟨k,H k bH,z⟩,h⟩
  ·rintro⟨q,z,h⟩
   obtain⟨Q,A,z⟩:=cR.1 z
   rcases O Q A k bH with rfl | h3
   ·exact⟨q,z,h⟩
   ·exact (h3 e.1 (jgR (jkM f _ _ (hK Q A).rows q z) (by simpa using (iK.1 h).2)) K).elim
theorem jnY{α:Type}{R:α->α->Prop}(hs:∀ a b,R a b->R b a):∀ {l:List α},l.Pairwise R->∀ a∈l,∀ b∈l,a=b\/R a b
 | x :: l,h,a,ha,b,hb=>by
  rw[cS]at h;rcases bM.1 ha with e | ha <;> rcases bM.1 hb with e' | hb
  ·exact .inl (e.trans e'.symm)
  ·exact .inr (e ▸ h.1 _ hb)
  ·exact .inr (e' ▸ hs _ _ (h.1 _ ha))
  ·exact jnY hs h.2 a ha b hb
theorem jyR{f:Nat}{out:List Pl}{p:vB}{l:vL}(h:jas (f+1) l){e:Pair}(he:e∈ownP p l):jeS ((jck p l).flatMap fun k=>metF [] (f+1) k.1 k.2) out e.1=false:=by
 unfold jeS;rw[List.any_eq_false];intro q o A
 obtain⟨k,z,o⟩:=cR.1 o
 have:=jmu h z he
 rw[jgR (jkM f _ _ (jgd h k z).rows q o) (by simpa using (iK.1 A).2)]at this;cases this
theorem jmp{f:Nat}(out:List Pl)(p:vB){l:vL}(h:jas (f+1) l)(ih:∀ (p:vB) (l:vL),jas f l->jgY out (f+1) p l=(absP p l).filter fun e => !jeS (metF [] (f+1) p l) out e.1) :
  ownP p l++(jck p l).flatMap (fun k=>jgY out (f+1) k.1 k.2)=(absP p l).filter fun e => !jeS ((jck p l).flatMap fun k=>metF [] (f+1) k.1 k.2) out e.1:=by
 have o:=jgd (p:=p) h;have z:=jjT p l
 conv=>rhs;rw[jlv p h,gM]
 congr 1
 ·rw[jL.2]
  intro e A;rw[jyR h A];rfl
 ·exact jsE out p l (jck p l) o z (fun k E=>ih _ _ (o k E).rows) (jck p l) (fun _ h=>h) (jnY (fun a b h e H J=>h e J H) z)
theorem joj(out:List Pl):∀ (f:Nat) (p:vB) (l:vL),jas f l->jgY out (f+1) p l=(absP p l).filter fun e => !jeS (metF [] (f+1) p l) out e.1:=by
 intro f;induction f with
 | zero =>
  intro p l h;rw[jgY,metF,jgc h,if_neg (cN)]
  by_cases ho:(p,refT l)∈out
  ·rw[if_pos ho,eq_comm,iB]
   intro e o;rw[jfU,jk0 o];simp[ho]
  ·rw[if_neg ho,eq_comm]
   show _=ownP p l++[];rw[bW,show ownP p l=absP p l by unfold ownP;rw[if_pos (jbI h)],jL];intro e o;rw[jfU];simp[ho,jeS]
 | succ f ih =>
  intro p l h;rw[jgY,metF,if_neg (cN)]
  by_cases ho:(p,refT l)∈out
  ·rw[if_pos ho,eq_comm,iB]
   intro e o;rw[jfU,jk0 o];simp[ho]
  ·rw[if_neg ho,jmp out p h ih]
   refine List.filter_congr fun e o=>?_;rw[jfU,decide_eq_false ho];rfl
structure jkh(f:Nat)(p:vB)(l:vL)(q:Pl)(m:vL):Prop where
 rows:jas 12 m
 ne:m≠[]
 ref:q.2=refT m
 up:∀ e∈absP q.1 m,e∈absP p l
 down:∀ e∈absP p l,preB q.1 e.1=true->e∈absP q.1 m
 text:∀ x∈jax (jac 13 m),32<=x.size->x∈jax (jac 13 l)
theorem jtS{f:Nat}{l:vL}(h:jas f l):jas 12 l:=⟨fun p e=>⟨(h.size p e).2.1,(h.size p e).2⟩,h.rise⟩
theorem jii{f:Nat}{l:vL}(h:jas f l):jac (f+1) l=jac 13 l:=by
 rcases Nat.le_total f 12 with hf | hf
 ·exact (jjw f 12 l h hf).2
 ·exact (jjw 12 f l (jtS h) hf).2.symm
theorem jmb{f:Nat}{p:vB}{l:vL}(h:jas (f+1) l){k:vB × vL}(hk:k∈jck p l){q:Pl}{m:vL}(hq:q∈metF [] (f+1) k.1 k.2)(hP:jkh f k.1 k.2 q m):jkh (f+1) p l q m:=by
 have E:=jgd h k hk
 refine⟨hP.rows,hP.ne,hP.ref,fun e o=>E.abs e (hP.up e o),fun e o J=>?_,fun x K A=>?_⟩
 ·refine hP.down e ?_ J
  have z:=jgR (jkM f _ _ E.rows q hq) J;rw[jlv p h]at o;rcases bT.1 o with o | o
  ·rw[jmu h hk o]at z;cases z
  ·obtain⟨O,H,o⟩:=cR.1 o
   rcases jnY (fun a b h e Q X=>h e X Q) (jjT p l) k hk O H with rfl | h3
   ·exact o
   ·exact (h3 e.1 z (jk0 o)).elim
 ·have:=E.text x (by rw[jii E.rows];exact hP.text x K A) A
  rw[jii h]at this;exact this
theorem jvW:∀ (f:Nat) (p:vB) (l:vL),jas f l->l≠[]->∀ q∈metF [] (f+1) p l,∃ m,jkh f p l q m:=by
 intro f;induction f with
 | zero =>
  intro p l h A q o;rw[metF,jgc h,if_neg (cN)]at o;rw[bZ.1 o]
  exact⟨l,jtS h,A,rfl,fun e z=>z,fun e z _=>z,fun x E _=>E⟩
 | succ f ih =>
  intro p l h A q o;rw[metF,if_neg (cN)]at o;rcases bM.1 o with rfl | o
  ·exact⟨l,jtS h,A,rfl,fun e z=>z,fun e z _=>z,fun x E _=>E⟩
  ·obtain⟨k,H,o⟩:=cR.1 o
   have J:=jgd h k H
   obtain⟨m,K⟩:=ih _ _ J.rows J.ne q o
   exact⟨m,jmb h H o K⟩
