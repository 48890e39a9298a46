/- Lemmas; each is under no condition but those that it states. -/
import Derived.Test.YtepbencaoiompaaGreatDoorPa35
namespace Go.Proofs.YtepbencaoiompaaGreatDoor
set_option linter.unusedSimpArgs false
set_option linter.unusedVariables false
set_option maxRecDepth 100000
set_option maxHeartbeats 16000000
open Go Go.RowKit
def jcE(n:jad)(p:vB):List Pl:=(List.range 16).flatMap fun i=>if (n.refs.getD i ⟨#[]⟩).size=0 then []else [((p++n.path)++(if n.kind=3 then nib1 i else ⟨#[]⟩),n.refs.getD i ⟨#[]⟩)]
def entN(n:jad)(p:vB):vL:=if n.value.size=0 then []else keyR (p++n.path) n.value
inductive jcq (S:vT) (out:List Pl):Nat->List Pl->List Pl->vL->Prop
 | nil (k:Nat):jcq S out k [] [] []
 | full (ts:List Pl):jcq S out 0 ts [] []
 | skip (k:Nat) (t:Pl) (ts:List Pl) (M:List Pl) (R:vL):t∈out->jcq S out (k+1) ts M R->jcq S out (k+1) (t :: ts) M R
 | no (k:Nat) (t:Pl) (ts:List Pl) (M:List Pl) (R:vL):t ∉ out->jgs S t.2 none->jcq S out (k+1) ts M R->jcq S out (k+1) (t :: ts) M R
 | go (k:Nat) (t:Pl) (ts:List Pl) (n:jad) (M:List Pl) (R:vL):t ∉ out->t.1.size<=10000->jgs S t.2 (some n)->jcq S out k (jcE n t.1++ts) M R->jcq S out (k+1) (t :: ts) (t :: M) (entN n t.1++R)
theorem jfG(a:vB):a++(⟨#[]⟩:vB)=a:=ByteArray.append_empty
theorem jpC(a:vB):(⟨#[]⟩:vB)++a=a:=ByteArray.empty_append
theorem jmq{α:Type}(g:Nat->List α)(h:∀ i,i≠0->i < 16->g i=[]):(List.range 16).flatMap g=g 0:=by
 show (g 0++(g 1++(g 2++(g 3++(g 4++(g 5++(g 6++(g 7++(g 8++(g 9++(g 10++(g 11++(g 12++(g 13++(g 14++(g 15++[]))))))))))))))))=g 0;rw[h 1 vI vI,h 2 vI vI,h 3 vI vI,h 4 vI vI,h 5 vI vI,h 6 vI vI,h 7 vI vI,h 8 vI vI,h 9 vI vI,h 10 vI vI,h 11 vI vI,h 12 vI vI,h 13 vI vI,h 14 vI vI,h 15 vI vI]
 simp
theorem jjY{α β:Type}{g h:α->List β}:∀ {l:List α},(∀ i∈l,g i=h i)->l.flatMap g=l.flatMap h
 | [],_=>rfl
 | x :: l,H=>by rw[cG,cG,H x bD,jjY fun i e=>H i (bC _ e)]
theorem jgm(k i:Nat):(jar k).getD i ⟨#[]⟩=⟨#[]⟩:=by
 unfold jar;rw[bE,List.getElem?_replicate];split <;> rfl
theorem jhe{f:Nat}{l:vL}(h:jav f l)(p:vB):jcE (jao (jab f) l) p=(jcr p l).map fun k=>(k.1,refT k.2):=by
 by_cases h1:l.length<=1
 ·have e:∀ i,(jao (jab f) l).refs.getD i ⟨#[]⟩=⟨#[]⟩:=fun i=>by
   unfold jao
   by_cases h0:l.length=0
   ·rw[if_pos h0];exact jgm 16 i
   ·rw[if_neg h0,if_pos vO];exact jgm 16 i
  unfold jcr jcE;rw[if_pos h1];simp only[e];rfl
 have E:2<=l.length:=vO
 cases f with
 | zero=>have:=jbD h;omega
 | succ f =>
  by_cases h3:0 < comK l
  ·obtain⟨o,z,_,_⟩:=jeo h E h3
   have A:jao (jab (f+1)) l=⟨2,comP l,⟨#[]⟩,refB (jab (f+1) (jal (comK l) l)).text :: jar 15⟩:=by unfold jao;rw[if_neg vO,if_neg vO,if_pos h3];rfl
   have H:=jhA o z;rw[A];unfold jcE jcr;rw[if_neg h1,if_pos h3,jmq]
   ·show (if (refB (jab (f+1) (jal (comK l) l)).text).size=0 then []else _)=_
    rw[if_neg H,if_neg (show ¬((2:Nat)=3) by decide),jfG,jio o];rfl
   ·intro i q _
    obtain⟨j,rfl⟩:∃ j,i=j+1:=⟨i - 1,by omega⟩
    show (if ((jar 15).getD j ⟨#[]⟩).size=0 then []else _)=[];rw[jgm];rfl
  ·have A:jao (jab (f+1)) l=⟨3,⟨#[]⟩,if (l.getD 0 pd).1.size=0 then (l.getD 0 pd).2 else ⟨#[]⟩,(List.range 16).map fun i=>if (cutL i l).length=0 then ⟨#[]⟩else refB (jab (f+1) (jal 1 (cutL i l))).text⟩:=by unfold jao;rw[if_neg vO,if_neg vO,if_neg h3]
   rw[A];unfold jcE jcr;rw[if_neg h1,if_neg h3,List.map_flatMap];refine jjY fun i q=>?_;have q:=dR.1 q;simp only[jfN _ q]
   by_cases hc:(cutL i l).length=0
   ·rw[if_pos hc,if_pos hc];rfl
   ·obtain⟨o,z⟩:=jfb h hc
    rw[if_neg hc,if_neg hc,if_neg (jhA o z)];simp only[if_true,jfG];rw[jio o];rfl
def keyE(e:Pair):Pair:=(jbC e.1,e.2)
theorem jnX{f:Nat}{l:vL}(h:jav f l)(p:vB)(hk:∀ q∈l,jdt (p++q.1)=true):entN (jao (jab f) l) p=(ownP p l).map keyE:=by
 by_cases h0:l.length=0
 ·rw[bG h0];rfl
 by_cases h1:l.length=1
 ·obtain⟨q,rfl⟩:=fJ.1 h1
  have o:jao (jab f) [q]=⟨1,q.1,q.2,jar 16⟩:=rfl;have J:=h.size q bD;rw[o];unfold entN keyR ownP;rw[if_neg (by show ¬ q.2.size=0;omega),if_pos (hk q bD),if_pos vO];rfl
 have K:2<=l.length:=vO
 by_cases h3:0 < comK l
 ·have o:(jao (jab f) l).value=⟨#[]⟩:=by unfold jao;rw[if_neg h0,if_neg h1,if_pos h3]
  unfold entN ownP;rw[o,if_pos (show (⟨#[]⟩:vB).size=0 from rfl),if_neg (show ¬ l.length<=1 by omega),if_pos h3];rfl
 ·have o:jao (jab f) l=⟨3,⟨#[]⟩,if (l.getD 0 pd).1.size=0 then (l.getD 0 pd).2 else ⟨#[]⟩,(List.range 16).map fun i=>if (cutL i l).length=0 then ⟨#[]⟩else refB (jab f (jal 1 (cutL i l))).text⟩:=by unfold jao;rw[if_neg h0,if_neg h1,if_neg h3]
  have A:l≠[]:=fun e=>h0 (by rw[e];rfl);rw[o];unfold entN ownP;rw[if_neg (show ¬ l.length<=1 by omega),if_neg h3,jjT h A]
  by_cases hz:(l.getD 0 pd).1.size=0
  ·have E:=jdJ (l:=l) vO
   have O:=h.size _ E;have z:=hk _ E;have H:(l.getD 0 pd).1=⟨#[]⟩:=ja1 hz;rw[H,jfG]at z;simp only[if_pos hz,jfG];rw[if_neg vO];unfold keyR;rw[if_pos z];show _=[keyE (p++(l.getD 0 pd).1,(l.getD 0 pd).2)];rw[H,jfG];rfl
  ·simp only[if_neg hz]
   rw[if_pos (show (⟨#[]⟩:vB).size=0 from rfl)];rfl
structure DenW(S:vT)(f:Nat)(t:Pl)(l:vL):Prop where
 rows:jav f l
 ne:l≠[]
 has:∀ x∈jau (jab (f+1) l),32<=x.size->HasS S x
 key:∀ q∈l,jdt (t.1++q.1)=true
 size:∀ q∈l,t.1.size+q.1.size<=12
 ref:t.2=refT l
theorem jrE{k:vB × vL}{p:vB}{l:vL}(h:∀ e∈absP k.1 k.2,e∈absP p l){q:Pair}(hq:q∈k.2):∃ r∈l,k.1++q.1=p++r.1:=by
 obtain⟨r,o,e⟩:=bI.1 (h (k.1++q.1,q.2) (bI.2 ⟨q,hq,rfl⟩))
 exact⟨r,o,(congrArg Prod.fst e).symm⟩
theorem js1{S:vT}{f:Nat}{t:Pl}{l:vL}(h:jav (f+1) l)(hh:∀ x∈jau (jab (f+1+1) l),32<=x.size->HasS S x)(hk:∀ q∈l,jdt (t.1++q.1)=true)(hs:∀ q∈l,t.1.size+q.1.size<=12){k:vB × vL}(hK:k∈jcr t.1 l):DenW S f (k.1,refT k.2) k.2:=by
 have K:=jgl h k hK
 refine⟨K.rows,K.ne,fun x E o=>hh x (K.text x E o) o,fun q z=>?_,fun q z=>?_,rfl⟩
 ·obtain⟨r,A,e⟩:=jrE K.abs z
  show jdt (k.1++q.1)=true;rw[e];exact hk r A
 ·obtain⟨r,A,e⟩:=jrE K.abs z
  have e:=congrArg ByteArray.size e;rw[cC,cC]at e
  have:=hs r A
  show k.1.size+q.1.size<=12;omega
theorem jmp{α:Type}(g:Nat->List α):∀ n,((List.range n).flatMap g).length=sumF (fun i=>(g i).length) n
 | 0=>rfl
 | n+1=>by
  rw[gA,dS,bF,jmp g n];simp[sumF]
theorem juo{g h:Nat->Nat}:∀ n,(∀ i,i < n->g i<=h i)->sumF g n<=sumF h n
 | 0,_=>bL _
 | n+1,H=>by
  have:=juo n (fun i e=>H i vO)
  have:=H n vO
  rw[sumF,sumF];omega
theorem jpt{out:List Pl}{f:Nat}(ih:∀ (p:vB) (l:vL),jav f l->(metF out (f+1) p l).length<=cntT f l){l:vL}(h:jav (f+1) l)(p:vB) :
  ((jcr p l).flatMap fun k=>metF out (f+1) k.1 k.2).length+1<=cntT (f+1) l:=by
 rw[cntT,gO];refine Nat.add_le_add_left ?_ 1;unfold jcr
 by_cases h1:l.length<=1
 ·rw[if_pos h1,if_pos h1];exact bL _
 rw[if_neg h1,if_neg h1]
 by_cases h3:0 < comK l
 ·rw[if_pos h3,if_pos h3]
  obtain⟨e,o,_,_⟩:=jeo h vO h3
  simp only[cG,fP,bU];exact ih _ _ e
 ·rw[if_neg h3,if_neg h3,List.flatMap_assoc,jmp]
  refine juo 16 fun i q=>?_
  by_cases hc:(cutL i l).length=0
  ·rw[if_pos hc,if_pos hc];exact bL _
  ·rw[if_neg hc,if_neg hc]
   simp only[cG,fP,bU];exact ih _ _ (jfb h hc).1
theorem jyF(out:List Pl):∀ (f:Nat) (p:vB) (l:vL),jav f l->(metF out (f+1) p l).length<=cntT f l:=by
 intro f;induction f with
 | zero =>
  intro p l h;rw[metF,jgk h];split
  ·exact bY _
  ·exact bL _
 | succ f ih =>
  intro p l h;rw[metF];split
  ·exact bY _
  ·exact jpt ih h p
theorem jjj{S:vT}{out:List Pl}{f:Nat}(ih:∀ (t:Pl) (l:vL) (k1:Nat) (ts M:List Pl) (R:vL),DenW S f t l->1<=k1->(∀ k,k1<=k->k<=400->jcq S out k ts M R)->∀ K,k1+(metF out (f+1) t.1 l).length<=K->K<=400->jcq S out K (t :: ts) (metF out (f+1) t.1 l++M) ((jg1 out (f+1) t.1 l).map keyE++R)) :
  ∀ (ks:List (vB × vL)) (k1:Nat) (ts M:List Pl) (R:vL),(∀ k∈ks,DenW S f (k.1,refT k.2) k.2)->1<=k1->(∀ k,k1<=k->k<=400->jcq S out k ts M R)->∀ K,k1+(ks.flatMap fun k=>metF out (f+1) k.1 k.2).length<=K->K<=400 ->
   jcq S out K ((ks.map fun k=>(k.1,refT k.2))++ts) ((ks.flatMap fun k=>metF out (f+1) k.1 k.2)++M) ((ks.flatMap fun k=>jg1 out (f+1) k.1 k.2).map keyE++R)
 | [],k1,ts,M,R,_,_,H,K,h2,h3=>H K (by simpa using h2) h3
 | k :: ks,k1,ts,M,R,hD,h1,H,K,h2,h3=>by
  rw[cG,bF]at h2
  have:=ih (k.1,refT k.2) k.2 (k1+(ks.flatMap fun k=>metF out (f+1) k.1 k.2).length) _ _ _ (hD k bD) vO (fun e h o=>jjj ih ks k1 ts M R (fun x q=>hD x (bC _ q)) h1 H e h o) K (by show _+(metF out (f+1) k.1 k.2).length<=K;omega) h3
  rw[bV,cG,cG,bZ,bX,bX];exact this
theorem DenW.size1{S:vT}{f:Nat}{t:Pl}{l:vL}(h:DenW S f t l):t.1.size<=10000:=by
 obtain⟨q,e⟩:=List.exists_mem_of_ne_nil _ h.ne
 have:=h.size q e
 omega
theorem DenW.is{S:vT}{f:Nat}{t:Pl}{l:vL}(h:DenW S f t l):jgs S t.2 (some (jao (jab f) l)):=by
 have e:=(good f l h.rows).2.1 h.ne;have q:=jyq (S:=S) e (fun o=>h.has _ (jbE _) o);rw[h.ref];unfold refT;rw[<-jio h.rows];exact q
theorem jwW{S:vT}{out:List Pl}:∀ (f:Nat) (t:Pl) (l:vL) (q:Nat) (e M:List Pl) (R:vL),DenW S f t l->1<=q->(∀ k,q<=k->k<=400->jcq S out k e M R)->∀ K,q+(metF out (f+1) t.1 l).length<=K->K<=400 ->
  jcq S out K (t :: e) (metF out (f+1) t.1 l++M) ((jg1 out (f+1) t.1 l).map keyE++R):=by
 intro f;induction f with
 | zero =>
  intro t l q e M R h E H K o A;have z:t=(t.1,refT l):=Prod.ext rfl h.ref;rw[metF,jgk h.rows, <-z]at o;rw[metF,jg1,jgk h.rows, <-z]
  obtain⟨K,rfl⟩:∃ K',K=K'+1:=⟨K - 1,by omega⟩
  by_cases ho:t∈out
  ·rw[if_pos ho,if_pos ho]
   exact .skip K t e M R ho (H _ vO A)
  ·rw[if_neg ho,if_neg ho]
   rw[if_neg ho]at o;simp only[fP,iV]at o
   have:=jcq.go K t e _ M R ho h.size1 h.is (by
    rw[jhe h.rows t.1,jgk h.rows];exact H K vO vO)
   rw[jnX h.rows t.1 h.key]at this;simp only[fP,bU];exact this
 | succ f ih =>
  intro t l q e M R h E H K o A;have z:t=(t.1,refT l):=Prod.ext rfl h.ref;rw[metF, <-z]at o;rw[metF,jg1, <-z]
  obtain⟨K,rfl⟩:∃ K',K=K'+1:=⟨K - 1,by omega⟩
  by_cases ho:t∈out
  ·rw[if_pos ho,if_pos ho]
   exact .skip K t e M R ho (H _ vO A)
  ·rw[if_neg ho,if_neg ho]
   rw[if_neg ho]at o;simp only[bO]at o
   have:=jcq.go K t e _ _ _ ho h.size1 h.is (by
    rw[jhe h.rows t.1];exact jjj ih (jcr t.1 l) q e M R (fun k J=>js1 h.rows h.has h.key h.size J) E H K vO vO)
   rw[jnX h.rows t.1 h.key]at this;rw[bZ,bX];exact this
def topP(l:vL):Pl:=(⟨#[]⟩,jaz (shaB (jay l).text))
def metT(out:List Pl)(l:vL):List Pl:=if topP l∈out then []else topP l ::(jcr ⟨#[]⟩ (jaO l)).flatMap fun k=>metF out 12 k.1 k.2
def jnm(out:List Pl)(l:vL):vL:=if topP l∈out then []else (ownP ⟨#[]⟩ (jaO l)++(jcr ⟨#[]⟩ (jaO l)).flatMap fun k=>jg1 out 12 k.1 k.2).map keyE
theorem jii{S:vT}{out:List Pl}{l:vL}(h:HasM S l):jcq S out 400 [topP l] (metT out l) (jnm out l):=by
 have A:=jaE h.ok;have e:=jbt A;have E:(jaO l).length<=40:=by unfold jaO;rw[cB];exact A.len
 unfold metT jnm
 by_cases ho:topP l∈out
 ·rw[if_pos ho,if_pos ho]
  exact .skip 399 _ _ _ _ ho (.nil _)
 ·rw[if_neg ho,if_neg ho]
  have H:∀ q∈jaO l,jdt ((⟨#[]⟩:vB)++q.1)=true:=fun q z=>by
   obtain⟨p,Z,rfl⟩:=bI.1 z
   rw[jpC];exact jpL p.1
  have K:∀ q∈jaO l,(⟨#[]⟩:vB).size+q.1.size<=12:=fun q z=>by
   have:=(e.size q z).2.1
   show 0+q.1.size<=12;omega
  have hc:((jcr ⟨#[]⟩ (jaO l)).flatMap fun k=>metF out 12 k.1 k.2).length+1<=130:=by
   have J:((jcr ⟨#[]⟩ (jaO l)).flatMap fun k=>metF out 12 k.1 k.2).length+1<=cntT 12 (jaO l):=jpt (jyF out 11) e ⟨#[]⟩
   by_cases hn:jaO l=[]
   ·rw[hn,show jcr ⟨#[]⟩ ([]:vL)=[]from rfl];exact Nat.le_add_left 1 129
   ·have:=(jxh 12 _ e hn).all
    omega
  have o:jgs S (topP l).2 (some (jao (jab 12) (jaO l))):=by
   obtain⟨y,J,O⟩:=h.has _ (jbE _)
   refine .inr ⟨shaB (jay l).text,jbb _,rfl,.inr ⟨y,_,J,?_,rfl⟩⟩;rw[O]
   refine⟨?_,12,(good 12 _ e).1⟩
   rfl
  have:=jcq.go (out:=out) 399 (topP l) [] _ _ _ ho (by show 0<=10000;omega) o (by
   rw[show (topP l).1=⟨#[]⟩from rfl,jhe e ⟨#[]⟩];exact jjj (f:=11) (jwW 11) (jcr ⟨#[]⟩ (jaO l)) 1 [] [] [] (fun k Q=>js1 (t:=(⟨#[]⟩,⟨#[]⟩)) e (fun x X _=>h.has x X) H K Q) (bL _) (fun k _ _=>.nil k) 399 (by show 1+(List.flatMap (fun k=>metF out 12 k.1 k.2) (jcr ⟨#[]⟩ (jaO l))).length<=399;omega) vO)
  rw[show (topP l).1=⟨#[]⟩from rfl,jnX e ⟨#[]⟩ H,bU,bU, <-bZ]at this;exact this
section
attribute [local go_sem] Oper.semAt_some
theorem jhS{P:Program}{w:vW}{ops:Array Oper}{rest:List Oper}{o:Oper}{a:Act}{Q:Exit->Act->vW->Prop}{b:BinOp}{T T':TypeId}(x y:Operand)(ho:o.op=.binOp b T x y T')(hw:Region.wanted o (yielded ops a.tmps)=true)(vx vy v:vV)(hx:a.eval x=vx)(hy:a.eval y=vy)
  (hg:(eqGuard b T x y vx vy).run P w=.ok () w) (hr:(binOp b T vx vy).run P w=.ok v w) (h:wpList P ops Q rest (a.put o.dst v) w):wpList P ops Q (o :: rest) a w:=by
 unfold wpList;rw[if_pos hw];refine .inl (jcD (v:=v) (w':=w) ?_ h);simp only[execOp,ho,hx,hy,bS,hg,hr,Result.andThen,cJ]
end
end Go.Proofs.YtepbencaoiompaaGreatDoor
