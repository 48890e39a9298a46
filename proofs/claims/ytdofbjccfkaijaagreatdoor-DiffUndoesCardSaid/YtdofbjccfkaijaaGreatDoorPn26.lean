/- Lemmas; each is under no condition but those that it states. -/
import Derived.Test.YtdofbjccfkaijaaGreatDoorPn25
namespace Go.Proofs.YtdofbjccfkaijaaGreatDoor
set_option linter.unusedSimpArgs false
set_option linter.unusedVariables false
set_option maxRecDepth 100000
set_option maxHeartbeats 16000000
open Go Go.RowKit
def jcC(n:jad)(p:vB):List Pl:=(List.range 16).flatMap fun i=>if (n.refs.getD i ⟨#[]⟩).size=0 then []else [((p++n.path)++(if n.kind=3 then nib1 i else ⟨#[]⟩),n.refs.getD i ⟨#[]⟩)]
def entN(n:jad)(p:vB):vL:=if n.value.size=0 then []else keyR (p++n.path) n.value
inductive jcA (S:vT) (out:List Pl):Nat->List Pl->List Pl->vL->Prop
 | nil (k:Nat):jcA S out k [] [] []
 | full (ts:List Pl):jcA S out 0 ts [] []
 | skip (k:Nat) (t:Pl) (ts:List Pl) (M:List Pl) (R:vL):t∈out->jcA S out (k+1) ts M R->jcA S out (k+1) (t :: ts) M R
 | no (k:Nat) (t:Pl) (ts:List Pl) (M:List Pl) (R:vL):t ∉ out->jg4 S t.2 none->jcA S out (k+1) ts M R->jcA S out (k+1) (t :: ts) M R
 | go (k:Nat) (t:Pl) (ts:List Pl) (n:jad) (M:List Pl) (R:vL):t ∉ out->t.1.size<=10000->jg4 S t.2 (some n)->jcA S out k (jcC n t.1++ts) M R->jcA S out (k+1) (t :: ts) (t :: M) (entN n t.1++R)
theorem jfw(a:vB):a++(⟨#[]⟩:vB)=a:=iD
theorem jpl(a:vB):(⟨#[]⟩:vB)++a=a:=ByteArray.empty_append
theorem jlZ{α:Type}(g:Nat->List α)(h:∀ i,i≠0->i < 16->g i=[]):(List.range 16).flatMap g=g 0:=by
 show (g 0++(g 1++(g 2++(g 3++(g 4++(g 5++(g 6++(g 7++(g 8++(g 9++(g 10++(g 11++(g 12++(g 13++(g 14++(g 15++[]))))))))))))))))=g 0;rw[h 1 vI vI,h 2 vI vI,h 3 vI vI,h 4 vI vI,h 5 vI vI,h 6 vI vI,h 7 vI vI,h 8 vI vI,h 9 vI vI,h 10 vI vI,h 11 vI vI,h 12 vI vI,h 13 vI vI,h 14 vI vI,h 15 vI vI]
 simp
theorem jjO{α β:Type}{g h:α->List β}:∀ {l:List α},(∀ i∈l,g i=h i)->l.flatMap g=l.flatMap h
 | [],_=>rfl
 | x :: l,H=>by rw[cH,cH,H x bH,jjO fun i e=>H i (bE _ e)]
theorem jge(k i:Nat):(jam k).getD i ⟨#[]⟩=⟨#[]⟩:=by
 unfold jam;rw[bG,iV];split <;> rfl
theorem jg8{f:Nat}{l:vL}(h:jas f l)(p:vB):jcC (jap (jac f) l) p=(jck p l).map fun k=>(k.1,refT k.2):=by
 by_cases h1:l.length<=1
 ·have e:∀ i,(jap (jac f) l).refs.getD i ⟨#[]⟩=⟨#[]⟩:=fun i=>by
   unfold jap
   by_cases h0:l.length=0
   ·rw[if_pos h0];exact jge 16 i
   ·rw[if_neg h0,if_pos vO];exact jge 16 i
  unfold jck jcC;rw[if_pos h1];simp only[e];rfl
 have H:2<=l.length:=vO
 cases f with
 | zero=>have:=jbI h;omega
 | succ f =>
  by_cases h3:0 < comK l
  ·obtain⟨o,A,_,_⟩:=jef h H h3
   have E:jap (jac (f+1)) l=⟨2,comP l,⟨#[]⟩,refB (jac (f+1) (jak (comK l) l)).text :: jam 15⟩:=by unfold jap;rw[if_neg vO,if_neg vO,if_pos h3];rfl
   have J:=jk6 o A;rw[E];unfold jcC jck;rw[if_neg h1,if_pos h3,jlZ]
   ·show (if (refB (jac (f+1) (jak (comK l) l)).text).size=0 then []else _)=_
    rw[if_neg J,if_neg (show ¬((2:Nat)=3) by decide),jfw,jii o];rfl
   ·intro i z _
    obtain⟨j,rfl⟩:∃ j,i=j+1:=⟨i - 1,by omega⟩
    show (if ((jam 15).getD j ⟨#[]⟩).size=0 then []else _)=[];rw[jge];rfl
  ·have E:jap (jac (f+1)) l=⟨3,⟨#[]⟩,if (l.getD 0 pd).1.size=0 then (l.getD 0 pd).2 else ⟨#[]⟩,(List.range 16).map fun i=>if (cutL i l).length=0 then ⟨#[]⟩else refB (jac (f+1) (jak 1 (cutL i l))).text⟩:=by unfold jap;rw[if_neg vO,if_neg vO,if_neg h3]
   rw[E];unfold jcC jck;rw[if_neg h1,if_neg h3,List.map_flatMap];refine jjO fun i z=>?_;have z:=dW.1 z;simp only[jfF _ z]
   by_cases hc:(cutL i l).length=0
   ·rw[if_pos hc,if_pos hc];rfl
   ·obtain⟨o,A⟩:=je3 h hc
    rw[if_neg hc,if_neg hc,if_neg (jk6 o A)];simp only[if_true,jfw];rw[jii o];rfl
def keyE(e:Pair):Pair:=(jbt e.1,e.2)
theorem jnG{f:Nat}{l:vL}(h:jas f l)(p:vB)(hk:∀ q∈l,jdh (p++q.1)=true):entN (jap (jac f) l) p=(ownP p l).map keyE:=by
 by_cases h0:l.length=0
 ·rw[bD h0];rfl
 by_cases h1:l.length=1
 ·obtain⟨q,rfl⟩:=fN.1 h1
  have o:jap (jac f) [q]=⟨1,q.1,q.2,jam 16⟩:=rfl;have J:=h.size q bH;rw[o];unfold entN keyR ownP;rw[if_neg (by show ¬ q.2.size=0;omega),if_pos (hk q bH),if_pos vO];rfl
 have K:2<=l.length:=vO
 by_cases h3:0 < comK l
 ·have o:(jap (jac f) l).value=⟨#[]⟩:=by unfold jap;rw[if_neg h0,if_neg h1,if_pos h3]
  unfold entN ownP;rw[o,if_pos (show (⟨#[]⟩:vB).size=0 from rfl),if_neg (show ¬ l.length<=1 by omega),if_pos h3];rfl
 ·have o:jap (jac f) l=⟨3,⟨#[]⟩,if (l.getD 0 pd).1.size=0 then (l.getD 0 pd).2 else ⟨#[]⟩,(List.range 16).map fun i=>if (cutL i l).length=0 then ⟨#[]⟩else refB (jac f (jak 1 (cutL i l))).text⟩:=by unfold jap;rw[if_neg h0,if_neg h1,if_neg h3]
  have A:l≠[]:=fun e=>h0 (by rw[e];rfl);rw[o];unfold entN ownP;rw[if_neg (show ¬ l.length<=1 by omega),if_neg h3,jjL h A]
  by_cases hz:(l.getD 0 pd).1.size=0
  ·have E:=jdz (l:=l) vO
   have O:=h.size _ E;have z:=hk _ E;have H:(l.getD 0 pd).1=⟨#[]⟩:=jbq hz;rw[H,jfw]at z;simp only[if_pos hz,jfw];rw[if_neg vO];unfold keyR;rw[if_pos z];show _=[keyE (p++(l.getD 0 pd).1,(l.getD 0 pd).2)];rw[H,jfw];rfl
  ·simp only[if_neg hz]
   rw[if_pos (show (⟨#[]⟩:vB).size=0 from rfl)];rfl
structure DenW(S:vT)(f:Nat)(t:Pl)(l:vL):Prop where
 rows:jas f l
 ne:l≠[]
 has:∀ x∈jax (jac (f+1) l),32<=x.size->HasS S x
 key:∀ q∈l,jdh (t.1++q.1)=true
 size:∀ q∈l,t.1.size+q.1.size<=12
 ref:t.2=refT l
theorem jrn{k:vB × vL}{p:vB}{l:vL}(h:∀ e∈absP k.1 k.2,e∈absP p l){q:Pair}(hq:q∈k.2):∃ r∈l,k.1++q.1=p++r.1:=by
 obtain⟨r,o,e⟩:=bJ.1 (h (k.1++q.1,q.2) (bJ.2 ⟨q,hq,rfl⟩))
 exact⟨r,o,(congrArg Prod.fst e).symm⟩
theorem jsD{S:vT}{f:Nat}{t:Pl}{l:vL}(h:jas (f+1) l)(hh:∀ x∈jax (jac (f+1+1) l),32<=x.size->HasS S x)(hk:∀ q∈l,jdh (t.1++q.1)=true)(hs:∀ q∈l,t.1.size+q.1.size<=12){k:vB × vL}(hK:k∈jck t.1 l):DenW S f (k.1,refT k.2) k.2:=by
 have K:=jgd h k hK
 refine⟨K.rows,K.ne,fun x E o=>hh x (K.text x E o) o,fun q z=>?_,fun q z=>?_,rfl⟩
 ·obtain⟨r,A,e⟩:=jrn K.abs z
  show jdh (k.1++q.1)=true;rw[e];exact hk r A
 ·obtain⟨r,A,e⟩:=jrn K.abs z
  have e:=congrArg ByteArray.size e;rw[bU,bU]at e
  have:=hs r A
  show k.1.size+q.1.size<=12;omega
theorem jlY{α:Type}(g:Nat->List α):∀ n,((List.range n).flatMap g).length=sumF (fun i=>(g i).length) n
 | 0=>rfl
 | n+1=>by
  rw[fS,dR,bC,jlY g n];simp[sumF]
theorem jt9{g h:Nat->Nat}:∀ n,(∀ i,i < n->g i<=h i)->sumF g n<=sumF h n
 | 0,_=>bL _
 | n+1,H=>by
  have:=jt9 n (fun i e=>H i vO)
  have:=H n vO
  rw[sumF,sumF];omega
theorem jo9{out:List Pl}{f:Nat}(ih:∀ (p:vB) (l:vL),jas f l->(metF out (f+1) p l).length<=cntT f l){l:vL}(h:jas (f+1) l)(p:vB) :
  ((jck p l).flatMap fun k=>metF out (f+1) k.1 k.2).length+1<=cntT (f+1) l:=by
 rw[cntT,gL];refine Nat.add_le_add_left ?_ 1;unfold jck
 by_cases h1:l.length<=1
 ·rw[if_pos h1,if_pos h1];exact bL _
 rw[if_neg h1,if_neg h1]
 by_cases h3:0 < comK l
 ·rw[if_pos h3,if_pos h3]
  obtain⟨e,o,_,_⟩:=jef h vO h3
  simp only[cH,fU,bW];exact ih _ _ e
 ·rw[if_neg h3,if_neg h3,List.flatMap_assoc,jlY]
  refine jt9 16 fun i z=>?_
  by_cases hc:(cutL i l).length=0
  ·rw[if_pos hc,if_pos hc];exact bL _
  ·rw[if_neg hc,if_neg hc]
   simp only[cH,fU,bW];exact ih _ _ (je3 h hc).1
theorem jx3(out:List Pl):∀ (f:Nat) (p:vB) (l:vL),jas f l->(metF out (f+1) p l).length<=cntT f l:=by
 intro f;induction f with
 | zero =>
  intro p l h;rw[metF,jgc h];split
  ·exact cE _
  ·exact bL _
 | succ f ih =>
  intro p l h;rw[metF];split
  ·exact cE _
  ·exact jo9 ih h p
theorem jjh{S:vT}{out:List Pl}{f:Nat}(ih:∀ (t:Pl) (l:vL) (k1:Nat) (ts M:List Pl) (R:vL),DenW S f t l->1<=k1->(∀ k,k1<=k->k<=400->jcA S out k ts M R)->∀ K,k1+(metF out (f+1) t.1 l).length<=K->K<=400->jcA S out K (t :: ts) (metF out (f+1) t.1 l++M) ((jgY out (f+1) t.1 l).map keyE++R)) :
  ∀ (ks:List (vB × vL)) (k1:Nat) (ts M:List Pl) (R:vL),(∀ k∈ks,DenW S f (k.1,refT k.2) k.2)->1<=k1->(∀ k,k1<=k->k<=400->jcA S out k ts M R)->∀ K,k1+(ks.flatMap fun k=>metF out (f+1) k.1 k.2).length<=K->K<=400 ->
   jcA S out K ((ks.map fun k=>(k.1,refT k.2))++ts) ((ks.flatMap fun k=>metF out (f+1) k.1 k.2)++M) ((ks.flatMap fun k=>jgY out (f+1) k.1 k.2).map keyE++R)
 | [],k1,ts,M,R,_,_,H,K,h2,h3=>H K (by simpa using h2) h3
 | k :: ks,k1,ts,M,R,hD,h1,H,K,h2,h3=>by
  rw[cH,bC]at h2
  have:=ih (k.1,refT k.2) k.2 (k1+(ks.flatMap fun k=>metF out (f+1) k.1 k.2).length) _ _ _ (hD k bH) vO (fun e h o=>jjh ih ks k1 ts M R (fun x z=>hD x (bE _ z)) h1 H e h o) K (by show _+(metF out (f+1) k.1 k.2).length<=K;omega) h3
  rw[bV,cH,cH,cB,cD,cD];exact this
theorem DenW.size1{S:vT}{f:Nat}{t:Pl}{l:vL}(h:DenW S f t l):t.1.size<=10000:=by
 obtain⟨q,e⟩:=List.exists_mem_of_ne_nil _ h.ne
 have:=h.size q e
 omega
theorem DenW.is{S:vT}{f:Nat}{t:Pl}{l:vL}(h:DenW S f t l):jg4 S t.2 (some (jap (jac f) l)):=by
 have e:=(good f l h.rows).2.1 h.ne;have z:=jxO (S:=S) e (fun o=>h.has _ (jbX _) o);rw[h.ref];unfold refT;rw[<-jii h.rows];exact z
theorem jwB{S:vT}{out:List Pl}:∀ (f:Nat) (t:Pl) (l:vL) (z:Nat) (e M:List Pl) (R:vL),DenW S f t l->1<=z->(∀ k,z<=k->k<=400->jcA S out k e M R)->∀ K,z+(metF out (f+1) t.1 l).length<=K->K<=400 ->
  jcA S out K (t :: e) (metF out (f+1) t.1 l++M) ((jgY out (f+1) t.1 l).map keyE++R):=by
 intro f;induction f with
 | zero =>
  intro t l z e M R h J H K o E;have A:t=(t.1,refT l):=Prod.ext rfl h.ref;rw[metF,jgc h.rows, <-A]at o;rw[metF,jgY,jgc h.rows, <-A]
  obtain⟨K,rfl⟩:∃ K',K=K'+1:=⟨K - 1,by omega⟩
  by_cases ho:t∈out
  ·rw[if_pos ho,if_pos ho]
   exact .skip K t e M R ho (H _ vO E)
  ·rw[if_neg ho,if_neg ho]
   rw[if_neg ho]at o;simp only[fU,jE]at o
   have:=jcA.go K t e _ M R ho h.size1 h.is (by
    rw[jg8 h.rows t.1,jgc h.rows];exact H K vO vO)
   rw[jnG h.rows t.1 h.key]at this;simp only[fU,bW];exact this
 | succ f ih =>
  intro t l z e M R h J H K o E;have A:t=(t.1,refT l):=Prod.ext rfl h.ref;rw[metF, <-A]at o;rw[metF,jgY, <-A]
  obtain⟨K,rfl⟩:∃ K',K=K'+1:=⟨K - 1,by omega⟩
  by_cases ho:t∈out
  ·rw[if_pos ho,if_pos ho]
   exact .skip K t e M R ho (H _ vO E)
  ·rw[if_neg ho,if_neg ho]
   rw[if_neg ho]at o;simp only[bF]at o
   have:=jcA.go K t e _ _ _ ho h.size1 h.is (by
    rw[jg8 h.rows t.1];exact jjh ih (jck t.1 l) z e M R (fun k O=>jsD h.rows h.has h.key h.size O) J H K vO vO)
   rw[jnG h.rows t.1 h.key]at this;rw[cB,cD];exact this
def topP(l:vL):Pl:=(⟨#[]⟩,jan (shaB (jaF l).text))
def metT(out:List Pl)(l:vL):List Pl:=if topP l∈out then []else topP l ::(jck ⟨#[]⟩ (jaR l)).flatMap fun k=>metF out 12 k.1 k.2
def jm2(out:List Pl)(l:vL):vL:=if topP l∈out then []else (ownP ⟨#[]⟩ (jaR l)++(jck ⟨#[]⟩ (jaR l)).flatMap fun k=>jgY out 12 k.1 k.2).map keyE
theorem jib{S:vT}{out:List Pl}{l:vL}(h:HasM S l):jcA S out 400 [topP l] (metT out l) (jm2 out l):=by
 have A:=jaA h.ok;have e:=jbw A;have E:(jaR l).length<=40:=by unfold jaR;rw[cC];exact A.len
 unfold metT jm2
 by_cases ho:topP l∈out
 ·rw[if_pos ho,if_pos ho]
  exact .skip 399 _ _ _ _ ho (.nil _)
 ·rw[if_neg ho,if_neg ho]
  have H:∀ q∈jaR l,jdh ((⟨#[]⟩:vB)++q.1)=true:=fun q z=>by
   obtain⟨p,Z,rfl⟩:=bJ.1 z
   rw[jpl];exact jpx p.1
  have K:∀ q∈jaR l,(⟨#[]⟩:vB).size+q.1.size<=12:=fun q z=>by
   have:=(e.size q z).2.1
   show 0+q.1.size<=12;omega
  have hc:((jck ⟨#[]⟩ (jaR l)).flatMap fun k=>metF out 12 k.1 k.2).length+1<=130:=by
   have J:((jck ⟨#[]⟩ (jaR l)).flatMap fun k=>metF out 12 k.1 k.2).length+1<=cntT 12 (jaR l):=jo9 (jx3 out 11) e ⟨#[]⟩
   by_cases hn:jaR l=[]
   ·rw[hn,show jck ⟨#[]⟩ ([]:vL)=[]from rfl];exact Nat.le_add_left 1 129
   ·have:=(jwM 12 _ e hn).all
    omega
  have o:jg4 S (topP l).2 (some (jap (jac 12) (jaR l))):=by
   obtain⟨y,J,O⟩:=h.has _ (jbX _)
   refine .inr ⟨shaB (jaF l).text,jbk _,rfl,.inr ⟨y,_,J,?_,rfl⟩⟩;rw[O]
   refine⟨?_,12,(good 12 _ e).1⟩
   rfl
  have:=jcA.go (out:=out) 399 (topP l) [] _ _ _ ho (by show 0<=10000;omega) o (by
   rw[show (topP l).1=⟨#[]⟩from rfl,jg8 e ⟨#[]⟩];exact jjh (f:=11) (jwB 11) (jck ⟨#[]⟩ (jaR l)) 1 [] [] [] (fun k Q=>jsD (t:=(⟨#[]⟩,⟨#[]⟩)) e (fun x X _=>h.has x X) H K Q) (bL _) (fun k _ _=>.nil k) 399 (by show 1+(List.flatMap (fun k=>metF out 12 k.1 k.2) (jck ⟨#[]⟩ (jaR l))).length<=399;omega) vO)
  rw[show (topP l).1=⟨#[]⟩from rfl,jnG e ⟨#[]⟩ H,bW,bW, <-cB]at this;exact this
section
attribute [local go_sem] Oper.semAt_some
theorem jft{P:Program}{w:vW}{ops:Array Oper}{rest:List Oper}{o:Oper}{a:Act}{Q:Exit->Act->vW->Prop}{b:BinOp}{T T':TypeId}(x y:Operand)(ho:o.op=.binOp b T x y T')(hw:Region.wanted o (yielded ops a.tmps)=true)(vx vy v:vV)(hx:a.eval x=vx)(hy:a.eval y=vy)
  (hg:(eqGuard b T x y vx vy).run P w=.ok () w) (hr:(binOp b T vx vy).run P w=.ok v w) (h:wpList P ops Q rest (a.put o.dst v) w):wpList P ops Q (o :: rest) a w:=by
 unfold wpList;rw[if_pos hw];refine .inl (jcb (v:=v) (w':=w) ?_ h);simp only[execOp,ho,hx,hy,bX,hg,hr,Result.andThen,cO]
end
