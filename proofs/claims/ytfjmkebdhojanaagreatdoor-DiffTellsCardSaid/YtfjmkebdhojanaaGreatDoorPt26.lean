/- Lemmas; each is under no condition but those that it states. -/
import Derived.Test.YtfjmkebdhojanaaGreatDoorPt25
namespace Go.Proofs.YtfjmkebdhojanaaGreatDoor
set_option linter.unusedSimpArgs false
set_option linter.unusedVariables false
set_option maxRecDepth 100000
set_option maxHeartbeats 16000000
open Go Go.RowKit
def jcF(n:jad)(p:vB):List Pl:=(List.range 16).flatMap fun i=>if (n.refs.getD i ⟨#[]⟩).size=0 then []else [((p++n.path)++(if n.kind=3 then nib1 i else ⟨#[]⟩),n.refs.getD i ⟨#[]⟩)]
def entN(n:jad)(p:vB):vL:=if n.value.size=0 then []else keyR (p++n.path) n.value
inductive jcD (S:vT) (out:List Pl):Nat->List Pl->List Pl->vL->Prop
 | nil (k:Nat):jcD S out k [] [] []
 | full (ts:List Pl):jcD S out 0 ts [] []
 | skip (k:Nat) (t:Pl) (ts:List Pl) (M:List Pl) (R:vL):t∈out->jcD S out (k+1) ts M R->jcD S out (k+1) (t :: ts) M R
 | no (k:Nat) (t:Pl) (ts:List Pl) (M:List Pl) (R:vL):t ∉ out->jg0 S t.2 none->jcD S out (k+1) ts M R->jcD S out (k+1) (t :: ts) M R
 | go (k:Nat) (t:Pl) (ts:List Pl) (n:jad) (M:List Pl) (R:vL):t ∉ out->t.1.size<=10000->jg0 S t.2 (some n)->jcD S out k (jcF n t.1++ts) M R->jcD S out (k+1) (t :: ts) (t :: M) (entN n t.1++R)
theorem jfA(a:vB):a++(⟨#[]⟩:vB)=a:=iE
theorem jpt(a:vB):(⟨#[]⟩:vB)++a=a:=ByteArray.empty_append
theorem jl9{α:Type}(g:Nat->List α)(h:∀ i,i≠0->i < 16->g i=[]):(List.range 16).flatMap g=g 0:=by
 show (g 0++(g 1++(g 2++(g 3++(g 4++(g 5++(g 6++(g 7++(g 8++(g 9++(g 10++(g 11++(g 12++(g 13++(g 14++(g 15++[]))))))))))))))))=g 0;rw[h 1 vI vI,h 2 vI vI,h 3 vI vI,h 4 vI vI,h 5 vI vI,h 6 vI vI,h 7 vI vI,h 8 vI vI,h 9 vI vI,h 10 vI vI,h 11 vI vI,h 12 vI vI,h 13 vI vI,h 14 vI vI,h 15 vI vI]
 simp
theorem jjS{α β:Type}{g h:α->List β}:∀ {l:List α},(∀ i∈l,g i=h i)->l.flatMap g=l.flatMap h
 | [],_=>rfl
 | x :: l,H=>by rw[cG,cG,H x bG,jjS fun i e=>H i (bD _ e)]
theorem jgc(k i:Nat):(jan k).getD i ⟨#[]⟩=⟨#[]⟩:=by
 unfold jan;rw[bH,iV];split <;> rfl
theorem jg4{f:Nat}{l:vL}(h:jap f l)(p:vB):jcF (jar (jac f) l) p=(jck p l).map fun k=>(k.1,refT k.2):=by
 by_cases h1:l.length<=1
 ·have e:∀ i,(jar (jac f) l).refs.getD i ⟨#[]⟩=⟨#[]⟩:=fun i=>by
   unfold jar
   by_cases h0:l.length=0
   ·rw[if_pos h0];exact jgc 16 i
   ·rw[if_neg h0,if_pos vO];exact jgc 16 i
  unfold jck jcF;rw[if_pos h1];simp only[e];rfl
 have J:2<=l.length:=vO
 cases f with
 | zero=>have:=jbI h;omega
 | succ f =>
  by_cases h3:0 < comK l
  ·obtain⟨o,E,_,_⟩:=jef h J h3
   have H:jar (jac (f+1)) l=⟨2,comP l,⟨#[]⟩,refB (jac (f+1) (jak (comK l) l)).text :: jan 15⟩:=by unfold jar;rw[if_neg vO,if_neg vO,if_pos h3];rfl
   have K:=jlc o E;rw[H];unfold jcF jck;rw[if_neg h1,if_pos h3,jl9]
   ·show (if (refB (jac (f+1) (jak (comK l) l)).text).size=0 then []else _)=_
    rw[if_neg K,if_neg (show ¬((2:Nat)=3) by decide),jfA,jif o];rfl
   ·intro i A _
    obtain⟨j,rfl⟩:∃ j,i=j+1:=⟨i - 1,by omega⟩
    show (if ((jan 15).getD j ⟨#[]⟩).size=0 then []else _)=[];rw[jgc];rfl
  ·have H:jar (jac (f+1)) l=⟨3,⟨#[]⟩,if (l.getD 0 pd).1.size=0 then (l.getD 0 pd).2 else ⟨#[]⟩,(List.range 16).map fun i=>if (cutL i l).length=0 then ⟨#[]⟩else refB (jac (f+1) (jak 1 (cutL i l))).text⟩:=by unfold jar;rw[if_neg vO,if_neg vO,if_neg h3]
   rw[H];unfold jcF jck;rw[if_neg h1,if_neg h3,List.map_flatMap];refine jjS fun i A=>?_;have A:=fA.1 A;simp only[jfI _ A]
   by_cases hc:(cutL i l).length=0
   ·rw[if_pos hc,if_pos hc];rfl
   ·obtain⟨o,E⟩:=je5 h hc
    rw[if_neg hc,if_neg hc,if_neg (jlc o E)];simp only[if_true,jfA];rw[jif o];rfl
def keyE(e:Pair):Pair:=(jbu e.1,e.2)
theorem jnV{f:Nat}{l:vL}(h:jap f l)(p:vB)(hk:∀ q∈l,jdj (p++q.1)=true):entN (jar (jac f) l) p=(ownP p l).map keyE:=by
 by_cases h0:l.length=0
 ·rw[bE h0];rfl
 by_cases h1:l.length=1
 ·obtain⟨q,rfl⟩:=fO.1 h1
  have o:jar (jac f) [q]=⟨1,q.1,q.2,jan 16⟩:=rfl;have K:=h.size q bG;rw[o];unfold entN keyR ownP;rw[if_neg (by show ¬ q.2.size=0;omega),if_pos (hk q bG),if_pos vO];rfl
 have O:2<=l.length:=vO
 by_cases h3:0 < comK l
 ·have o:(jar (jac f) l).value=⟨#[]⟩:=by unfold jar;rw[if_neg h0,if_neg h1,if_pos h3]
  unfold entN ownP;rw[o,if_pos (show (⟨#[]⟩:vB).size=0 from rfl),if_neg (show ¬ l.length<=1 by omega),if_pos h3];rfl
 ·have o:jar (jac f) l=⟨3,⟨#[]⟩,if (l.getD 0 pd).1.size=0 then (l.getD 0 pd).2 else ⟨#[]⟩,(List.range 16).map fun i=>if (cutL i l).length=0 then ⟨#[]⟩else refB (jac f (jak 1 (cutL i l))).text⟩:=by unfold jar;rw[if_neg h0,if_neg h1,if_neg h3]
  have E:l≠[]:=fun e=>h0 (by rw[e];rfl);rw[o];unfold entN ownP;rw[if_neg (show ¬ l.length<=1 by omega),if_neg h3,jjP h E]
  by_cases hz:(l.getD 0 pd).1.size=0
  ·have H:=jdy (l:=l) vO
   have Q:=h.size _ H;have A:=hk _ H;have J:(l.getD 0 pd).1=⟨#[]⟩:=jby hz;rw[J,jfA]at A;simp only[if_pos hz,jfA];rw[if_neg vO];unfold keyR;rw[if_pos A];show _=[keyE (p++(l.getD 0 pd).1,(l.getD 0 pd).2)];rw[J,jfA];rfl
  ·simp only[if_neg hz]
   rw[if_pos (show (⟨#[]⟩:vB).size=0 from rfl)];rfl
structure DenW(S:vT)(f:Nat)(t:Pl)(l:vL):Prop where
 rows:jap f l
 ne:l≠[]
 has:∀ x∈jav (jac (f+1) l),32<=x.size->HasS S x
 key:∀ q∈l,jdj (t.1++q.1)=true
 size:∀ q∈l,t.1.size+q.1.size<=12
 ref:t.2=refT l
theorem jrl{k:vB × vL}{p:vB}{l:vL}(h:∀ e∈absP k.1 k.2,e∈absP p l){q:Pair}(hq:q∈k.2):∃ r∈l,k.1++q.1=p++r.1:=by
 obtain⟨r,o,e⟩:=bK.1 (h (k.1++q.1,q.2) (bK.2 ⟨q,hq,rfl⟩))
 exact⟨r,o,(congrArg Prod.fst e).symm⟩
theorem jsC{S:vT}{f:Nat}{t:Pl}{l:vL}(h:jap (f+1) l)(hh:∀ x∈jav (jac (f+1+1) l),32<=x.size->HasS S x)(hk:∀ q∈l,jdj (t.1++q.1)=true)(hs:∀ q∈l,t.1.size+q.1.size<=12){k:vB × vL}(hK:k∈jck t.1 l):DenW S f (k.1,refT k.2) k.2:=by
 have K:=jgb h k hK
 refine⟨K.rows,K.ne,fun x H o=>hh x (K.text x H o) o,fun q A=>?_,fun q A=>?_,rfl⟩
 ·obtain⟨r,E,e⟩:=jrl K.abs A
  show jdj (k.1++q.1)=true;rw[e];exact hk r E
 ·obtain⟨r,E,e⟩:=jrl K.abs A
  have e:=congrArg ByteArray.size e;rw[bV,bV]at e
  have:=hs r E
  show k.1.size+q.1.size<=12;omega
theorem jl8{α:Type}(g:Nat->List α):∀ n,((List.range n).flatMap g).length=sumF (fun i=>(g i).length) n
 | 0=>rfl
 | n+1=>by
  rw[fR,dX,bC,jl8 g n];simp[sumF]
theorem jt6{g h:Nat->Nat}:∀ n,(∀ i,i < n->g i<=h i)->sumF g n<=sumF h n
 | 0,_=>bL _
 | n+1,H=>by
  have:=jt6 n (fun i e=>H i vO)
  have:=H n vO
  rw[sumF,sumF];omega
theorem jpk{out:List Pl}{f:Nat}(ih:∀ (p:vB) (l:vL),jap f l->(metF out (f+1) p l).length<=cntT f l){l:vL}(h:jap (f+1) l)(p:vB) :
  ((jck p l).flatMap fun k=>metF out (f+1) k.1 k.2).length+1<=cntT (f+1) l:=by
 rw[cntT,gN];refine Nat.add_le_add_left ?_ 1;unfold jck
 by_cases h1:l.length<=1
 ·rw[if_pos h1,if_pos h1];exact bL _
 rw[if_neg h1,if_neg h1]
 by_cases h3:0 < comK l
 ·rw[if_pos h3,if_pos h3]
  obtain⟨e,o,_,_⟩:=jef h vO h3
  simp only[cG,fU,bZ];exact ih _ _ e
 ·rw[if_neg h3,if_neg h3,List.flatMap_assoc,jl8]
  refine jt6 16 fun i A=>?_
  by_cases hc:(cutL i l).length=0
  ·rw[if_pos hc,if_pos hc];exact bL _
  ·rw[if_neg hc,if_neg hc]
   simp only[cG,fU,bZ];exact ih _ _ (je5 h hc).1
theorem jxZ(out:List Pl):∀ (f:Nat) (p:vB) (l:vL),jap f l->(metF out (f+1) p l).length<=cntT f l:=by
 intro f;induction f with
 | zero =>
  intro p l h;rw[metF,jga h];split
  ·exact cD _
  ·exact bL _
 | succ f ih =>
  intro p l h;rw[metF];split
  ·exact cD _
  ·exact jpk ih h p
theorem jji{S:vT}{out:List Pl}{f:Nat}(ih:∀ (t:Pl) (l:vL) (k1:Nat) (ts M:List Pl) (R:vL),DenW S f t l->1<=k1->(∀ k,k1<=k->k<=400->jcD S out k ts M R)->∀ K,k1+(metF out (f+1) t.1 l).length<=K->K<=400->jcD S out K (t :: ts) (metF out (f+1) t.1 l++M) ((jgU out (f+1) t.1 l).map keyE++R)) :
  ∀ (ks:List (vB × vL)) (k1:Nat) (ts M:List Pl) (R:vL),(∀ k∈ks,DenW S f (k.1,refT k.2) k.2)->1<=k1->(∀ k,k1<=k->k<=400->jcD S out k ts M R)->∀ K,k1+(ks.flatMap fun k=>metF out (f+1) k.1 k.2).length<=K->K<=400 ->
   jcD S out K ((ks.map fun k=>(k.1,refT k.2))++ts) ((ks.flatMap fun k=>metF out (f+1) k.1 k.2)++M) ((ks.flatMap fun k=>jgU out (f+1) k.1 k.2).map keyE++R)
 | [],k1,ts,M,R,_,_,H,K,h2,h3=>H K (by simpa using h2) h3
 | k :: ks,k1,ts,M,R,hD,h1,H,K,h2,h3=>by
  rw[cG,bC]at h2
  have:=ih (k.1,refT k.2) k.2 (k1+(ks.flatMap fun k=>metF out (f+1) k.1 k.2).length) _ _ _ (hD k bG) vO (fun e h o=>jji ih ks k1 ts M R (fun x A=>hD x (bD _ A)) h1 H e h o) K (by show _+(metF out (f+1) k.1 k.2).length<=K;omega) h3
  rw[bS,cG,cG,cB,cE,cE];exact this
theorem DenW.size1{S:vT}{f:Nat}{t:Pl}{l:vL}(h:DenW S f t l):t.1.size<=10000:=by
 obtain⟨q,e⟩:=List.exists_mem_of_ne_nil _ h.ne
 have:=h.size q e
 omega
theorem DenW.is{S:vT}{f:Nat}{t:Pl}{l:vL}(h:DenW S f t l):jg0 S t.2 (some (jar (jac f) l)):=by
 have e:=(good f l h.rows).2.1 h.ne;have A:=jxK (S:=S) e (fun o=>h.has _ (jbW _) o);rw[h.ref];unfold refT;rw[<-jif h.rows];exact A
theorem jwu{S:vT}{out:List Pl}:∀ (f:Nat) (t:Pl) (l:vL) (A:Nat) (e M:List Pl) (R:vL),DenW S f t l->1<=A->(∀ k,A<=k->k<=400->jcD S out k e M R)->∀ K,A+(metF out (f+1) t.1 l).length<=K->K<=400 ->
  jcD S out K (t :: e) (metF out (f+1) t.1 l++M) ((jgU out (f+1) t.1 l).map keyE++R):=by
 intro f;induction f with
 | zero =>
  intro t l A e M R h O H K o J;have E:t=(t.1,refT l):=Prod.ext rfl h.ref;rw[metF,jga h.rows, <-E]at o;rw[metF,jgU,jga h.rows, <-E]
  obtain⟨K,rfl⟩:∃ K',K=K'+1:=⟨K - 1,by omega⟩
  by_cases ho:t∈out
  ·rw[if_pos ho,if_pos ho]
   exact .skip K t e M R ho (H _ vO J)
  ·rw[if_neg ho,if_neg ho]
   rw[if_neg ho]at o;simp only[fU,iH]at o
   have:=jcD.go K t e _ M R ho h.size1 h.is (by
    rw[jg4 h.rows t.1,jga h.rows];exact H K vO vO)
   rw[jnV h.rows t.1 h.key]at this;simp only[fU,bZ];exact this
 | succ f ih =>
  intro t l A e M R h O H K o J;have E:t=(t.1,refT l):=Prod.ext rfl h.ref;rw[metF, <-E]at o;rw[metF,jgU, <-E]
  obtain⟨K,rfl⟩:∃ K',K=K'+1:=⟨K - 1,by omega⟩
  by_cases ho:t∈out
  ·rw[if_pos ho,if_pos ho]
   exact .skip K t e M R ho (H _ vO J)
  ·rw[if_neg ho,if_neg ho]
   rw[if_neg ho]at o;simp only[bF]at o
   have:=jcD.go K t e _ _ _ ho h.size1 h.is (by
    rw[jg4 h.rows t.1];exact jji ih (jck t.1 l) A e M R (fun k Q=>jsC h.rows h.has h.key h.size Q) O H K vO vO)
   rw[jnV h.rows t.1 h.key]at this;rw[cB,cE];exact this
def topP(l:vL):Pl:=(⟨#[]⟩,jao (shaB (jaG l).text))
def metT(out:List Pl)(l:vL):List Pl:=if topP l∈out then []else topP l ::(jck ⟨#[]⟩ (jaP l)).flatMap fun k=>metF out 12 k.1 k.2
def jnf(out:List Pl)(l:vL):vL:=if topP l∈out then []else (ownP ⟨#[]⟩ (jaP l)++(jck ⟨#[]⟩ (jaP l)).flatMap fun k=>jgU out 12 k.1 k.2).map keyE
theorem jh8{S:vT}{out:List Pl}{l:vL}(h:HasM S l):jcD S out 400 [topP l] (metT out l) (jnf out l):=by
 have E:=jaD h.ok;have e:=jbD E;have H:(jaP l).length<=40:=by unfold jaP;rw[cC];exact E.len
 unfold metT jnf
 by_cases ho:topP l∈out
 ·rw[if_pos ho,if_pos ho]
  exact .skip 399 _ _ _ _ ho (.nil _)
 ·rw[if_neg ho,if_neg ho]
  have J:∀ q∈jaP l,jdj ((⟨#[]⟩:vB)++q.1)=true:=fun q A=>by
   obtain⟨p,hp,rfl⟩:=bK.1 A
   rw[jpt];exact jpD p.1
  have O:∀ q∈jaP l,(⟨#[]⟩:vB).size+q.1.size<=12:=fun q A=>by
   have:=(e.size q A).2.1
   show 0+q.1.size<=12;omega
  have hc:((jck ⟨#[]⟩ (jaP l)).flatMap fun k=>metF out 12 k.1 k.2).length+1<=130:=by
   have K:((jck ⟨#[]⟩ (jaP l)).flatMap fun k=>metF out 12 k.1 k.2).length+1<=cntT 12 (jaP l):=jpk (jxZ out 11) e ⟨#[]⟩
   by_cases hn:jaP l=[]
   ·rw[hn,show jck ⟨#[]⟩ ([]:vL)=[]from rfl];exact Nat.le_add_left 1 129
   ·have:=(jwG 12 _ e hn).all
    omega
  have o:jg0 S (topP l).2 (some (jar (jac 12) (jaP l))):=by
   obtain⟨y,K,Q⟩:=h.has _ (jbW _)
   refine .inr ⟨shaB (jaG l).text,jbd _,rfl,.inr ⟨y,_,K,?_,rfl⟩⟩;rw[Q]
   refine⟨?_,12,(good 12 _ e).1⟩
   rfl
  have:=jcD.go (out:=out) 399 (topP l) [] _ _ _ ho (by show 0<=10000;omega) o (by
   rw[show (topP l).1=⟨#[]⟩from rfl,jg4 e ⟨#[]⟩];exact jji (f:=11) (jwu 11) (jck ⟨#[]⟩ (jaP l)) 1 [] [] [] (fun k X=>jsC (t:=(⟨#[]⟩,⟨#[]⟩)) e (fun x Z _=>h.has x Z) J O X) (bL _) (fun k _ _=>.nil k) 399 (by show 1+(List.flatMap (fun k=>metF out 12 k.1 k.2) (jck ⟨#[]⟩ (jaP l))).length<=399;omega) vO)
  rw[show (topP l).1=⟨#[]⟩from rfl,jnV e ⟨#[]⟩ J,bZ,bZ, <-cB]at this;exact this
section
attribute [local go_sem] Oper.semAt_some
theorem jfx{P:Program}{w:vW}{ops:Array Oper}{rest:List Oper}{o:Oper}{a:Act}{Q:Exit->Act->vW->Prop}{b:BinOp}{T T':TypeId}(x y:Operand)(ho:o.op=.binOp b T x y T')(hw:Region.wanted o (yielded ops a.tmps)=true)(vx vy v:vV)(hx:a.eval x=vx)(hy:a.eval y=vy)
  (hg:(eqGuard b T x y vx vy).run P w=.ok () w) (hr:(binOp b T vx vy).run P w=.ok v w) (h:wpList P ops Q rest (a.put o.dst v) w):wpList P ops Q (o :: rest) a w:=by
 unfold wpList;rw[if_pos hw];refine .inl (jcd (v:=v) (w':=w) ?_ h);simp only[execOp,ho,hx,hy,cA,hg,hr,Result.andThen,cO]
end
