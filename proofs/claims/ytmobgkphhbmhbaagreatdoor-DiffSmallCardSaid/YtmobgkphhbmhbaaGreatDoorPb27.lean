/- Lemmas; each is under no condition but those that it states. -/
import Derived.Test.YtmobgkphhbmhbaaGreatDoorPb26
import Derived.Test.YtmobgkphhbmhbaaGreatDoorPb25
namespace Go.Proofs.YtmobgkphhbmhbaaGreatDoor
set_option linter.unusedSimpArgs false
set_option linter.unusedVariables false
set_option maxRecDepth 100000
set_option maxHeartbeats 16000000
open Go Go.RowKit
def jcu(n:jae)(p:vB):List Pl:=(List.range 16).flatMap fun i=>if (n.refs.getD i ⟨#[]⟩).size=0 then []else [((p++n.path)++(if n.kind=3 then nib1 i else ⟨#[]⟩),n.refs.getD i ⟨#[]⟩)]
def entN(n:jae)(p:vB):vL:=if n.value.size=0 then []else keyR (p++n.path) n.value
inductive jcs (S:vT) (out:List Pl):Nat->List Pl->List Pl->vL->Prop
 | nil (k:Nat):jcs S out k [] [] []
 | full (ts:List Pl):jcs S out 0 ts [] []
 | skip (k:Nat) (t:Pl) (ts:List Pl) (M:List Pl) (R:vL):t∈out->jcs S out (k+1) ts M R->jcs S out (k+1) (t :: ts) M R
 | no (k:Nat) (t:Pl) (ts:List Pl) (M:List Pl) (R:vL):t ∉ out->jgK S t.2 none->jcs S out (k+1) ts M R->jcs S out (k+1) (t :: ts) M R
 | go (k:Nat) (t:Pl) (ts:List Pl) (n:jae) (M:List Pl) (R:vL):t ∉ out->t.1.size<=10000->jgK S t.2 (some n)->jcs S out k (jcu n t.1++ts) M R->jcs S out (k+1) (t :: ts) (t :: M) (entN n t.1++R)
theorem jfi(a:vB):a++(⟨#[]⟩:vB)=a:=ByteArray.append_empty
theorem jom(a:vB):(⟨#[]⟩:vB)++a=a:=ByteArray.empty_append
theorem jlr{α:Type}(g:Nat->List α)(h:∀ i,i≠0->i < 16->g i=[]):(List.range 16).flatMap g=g 0:=by
 show (g 0++(g 1++(g 2++(g 3++(g 4++(g 5++(g 6++(g 7++(g 8++(g 9++(g 10++(g 11++(g 12++(g 13++(g 14++(g 15++[]))))))))))))))))=g 0;rw[h 1 vI vI,h 2 vI vI,h 3 vI vI,h 4 vI vI,h 5 vI vI,h 6 vI vI,h 7 vI vI,h 8 vI vI,h 9 vI vI,h 10 vI vI,h 11 vI vI,h 12 vI vI,h 13 vI vI,h 14 vI vI,h 15 vI vI]
 simp
theorem jjh{α β:Type}{g h:α->List β}:∀ {l:List α},(∀ i∈l,g i=h i)->l.flatMap g=l.flatMap h
 | [],_=>rfl
 | x :: l,H=>by rw[cF,cF,H x bD,jjh fun i e=>H i (bC _ e)]
theorem jfZ(k i:Nat):(jat k).getD i ⟨#[]⟩=⟨#[]⟩:=by
 unfold jat;rw[bG,List.getElem?_replicate];split <;> rfl
theorem jgO{f:Nat}{l:vL}(h:jar f l)(p:vB):jcu (jan (jab f) l) p=(jcf p l).map fun k=>(k.1,refT k.2):=by
 by_cases h1:l.length<=1
 ·have e:∀ i,(jan (jab f) l).refs.getD i ⟨#[]⟩=⟨#[]⟩:=fun i=>by
   unfold jan
   by_cases h0:l.length=0
   ·rw[if_pos h0];exact jfZ 16 i
   ·rw[if_neg h0,if_pos vO];exact jfZ 16 i
  unfold jcf jcu;rw[if_pos h1];simp only[e];rfl
 have E:2<=l.length:=vO
 cases f with
 | zero=>have:=jbA h;omega
 | succ f =>
  by_cases h3:0 < comK l
  ·obtain⟨o,z,_,_⟩:=jdW h E h3
   have A:jan (jab (f+1)) l=⟨2,comP l,⟨#[]⟩,refB (jab (f+1) (jag (comK l) l)).text :: jat 15⟩:=by unfold jan;rw[if_neg vO,if_neg vO,if_pos h3];rfl
   have H:=jkD o z;rw[A];unfold jcu jcf;rw[if_neg h1,if_pos h3,jlr]
   ·show (if (refB (jab (f+1) (jag (comK l) l)).text).size=0 then []else _)=_
    rw[if_neg H,if_neg (show ¬((2:Nat)=3) by decide),jfi,jhP o];rfl
   ·intro i q _
    obtain⟨j,rfl⟩:∃ j,i=j+1:=⟨i - 1,by omega⟩
    show (if ((jat 15).getD j ⟨#[]⟩).size=0 then []else _)=[];rw[jfZ];rfl
  ·have A:jan (jab (f+1)) l=⟨3,⟨#[]⟩,if (l.getD 0 pd).1.size=0 then (l.getD 0 pd).2 else ⟨#[]⟩,(List.range 16).map fun i=>if (cutL i l).length=0 then ⟨#[]⟩else refB (jab (f+1) (jag 1 (cutL i l))).text⟩:=by unfold jan;rw[if_neg vO,if_neg vO,if_neg h3]
   rw[A];unfold jcu jcf;rw[if_neg h1,if_neg h3,List.map_flatMap];refine jjh fun i q=>?_;have q:=dJ.1 q;simp only[jfq _ q]
   by_cases hc:(cutL i l).length=0
   ·rw[if_pos hc,if_pos hc];rfl
   ·obtain⟨o,z⟩:=jeL h hc
    rw[if_neg hc,if_neg hc,if_neg (jkD o z)];simp only[if_true,jfi];rw[jhP o];rfl
def keyE(e:Pair):Pair:=(jby e.1,e.2)
theorem jmP{f:Nat}{l:vL}(h:jar f l)(p:vB)(hk:∀ q∈l,jda (p++q.1)=true):entN (jan (jab f) l) p=(ownP p l).map keyE:=by
 by_cases h0:l.length=0
 ·rw[bE h0];rfl
 by_cases h1:l.length=1
 ·obtain⟨q,rfl⟩:=fC.1 h1
  have o:jan (jab f) [q]=⟨1,q.1,q.2,jat 16⟩:=rfl;have J:=h.size q bD;rw[o];unfold entN keyR ownP;rw[if_neg (by show ¬ q.2.size=0;omega),if_pos (hk q bD),if_pos vO];rfl
 have K:2<=l.length:=vO
 by_cases h3:0 < comK l
 ·have o:(jan (jab f) l).value=⟨#[]⟩:=by unfold jan;rw[if_neg h0,if_neg h1,if_pos h3]
  unfold entN ownP;rw[o,if_pos (show (⟨#[]⟩:vB).size=0 from rfl),if_neg (show ¬ l.length<=1 by omega),if_pos h3];rfl
 ·have o:jan (jab f) l=⟨3,⟨#[]⟩,if (l.getD 0 pd).1.size=0 then (l.getD 0 pd).2 else ⟨#[]⟩,(List.range 16).map fun i=>if (cutL i l).length=0 then ⟨#[]⟩else refB (jab f (jag 1 (cutL i l))).text⟩:=by unfold jan;rw[if_neg h0,if_neg h1,if_neg h3]
  have A:l≠[]:=fun e=>h0 (by rw[e];rfl);rw[o];unfold entN ownP;rw[if_neg (show ¬ l.length<=1 by omega),if_neg h3,jjd h A]
  by_cases hz:(l.getD 0 pd).1.size=0
  ·have E:=jdo (l:=l) vO
   have O:=h.size _ E;have z:=hk _ E;have H:(l.getD 0 pd).1=⟨#[]⟩:=jbp hz;rw[H,jfi]at z;simp only[if_pos hz,jfi];rw[if_neg vO];unfold keyR;rw[if_pos z];show _=[keyE (p++(l.getD 0 pd).1,(l.getD 0 pd).2)];rw[H,jfi];rfl
  ·simp only[if_neg hz]
   rw[if_pos (show (⟨#[]⟩:vB).size=0 from rfl)];rfl
structure DenW(S:vT)(f:Nat)(t:Pl)(l:vL):Prop where
 rows:jar f l
 ne:l≠[]
 has:∀ x∈jao (jab (f+1) l),32<=x.size->HasS S x
 key:∀ q∈l,jda (t.1++q.1)=true
 size:∀ q∈l,t.1.size+q.1.size<=12
 ref:t.2=refT l
theorem jp8{k:vB × vL}{p:vB}{l:vL}(h:∀ e∈absP k.1 k.2,e∈absP p l){q:Pair}(hq:q∈k.2):∃ r∈l,k.1++q.1=p++r.1:=by
 obtain⟨r,o,e⟩:=bH.1 (h (k.1++q.1,q.2) (bH.2 ⟨q,hq,rfl⟩))
 exact⟨r,o,(congrArg Prod.fst e).symm⟩
theorem jrn{S:vT}{f:Nat}{t:Pl}{l:vL}(h:jar (f+1) l)(hh:∀ x∈jao (jab (f+1+1) l),32<=x.size->HasS S x)(hk:∀ q∈l,jda (t.1++q.1)=true)(hs:∀ q∈l,t.1.size+q.1.size<=12){k:vB × vL}(hK:k∈jcf t.1 l):DenW S f (k.1,refT k.2) k.2:=by
 have K:=jfY h k hK
 refine⟨K.rows,K.ne,fun x E o=>hh x (K.text x E o) o,fun q z=>?_,fun q z=>?_,rfl⟩
 ·obtain⟨r,A,e⟩:=jp8 K.abs z
  show jda (k.1++q.1)=true;rw[e];exact hk r A
 ·obtain⟨r,A,e⟩:=jp8 K.abs z
  have e:=congrArg ByteArray.size e;rw[cN,cN]at e
  have:=hs r A
  show k.1.size+q.1.size<=12;omega
theorem jlq{α:Type}(g:Nat->List α):∀ n,((List.range n).flatMap g).length=sumF (fun i=>(g i).length) n
 | 0=>rfl
 | n+1=>by
  rw[fW,dL,bF,jlq g n];simp[sumF]
theorem jsE{g h:Nat->Nat}:∀ n,(∀ i,i < n->g i<=h i)->sumF g n<=sumF h n
 | 0,_=>bM _
 | n+1,H=>by
  have:=jsE n (fun i e=>H i vO)
  have:=H n vO
  rw[sumF,sumF];omega
theorem job{out:List Pl}{f:Nat}(ih:∀ (p:vB) (l:vL),jar f l->(metF out (f+1) p l).length<=cntT f l){l:vL}(h:jar (f+1) l)(p:vB) :
  ((jcf p l).flatMap fun k=>metF out (f+1) k.1 k.2).length+1<=cntT (f+1) l:=by
 rw[cntT,gN];refine Nat.add_le_add_left ?_ 1;unfold jcf
 by_cases h1:l.length<=1
 ·rw[if_pos h1,if_pos h1];exact bM _
 rw[if_neg h1,if_neg h1]
 by_cases h3:0 < comK l
 ·rw[if_pos h3,if_pos h3]
  obtain⟨e,o,_,_⟩:=jdW h vO h3
  simp only[cF,fL,bS];exact ih _ _ e
 ·rw[if_neg h3,if_neg h3,List.flatMap_assoc,jlq]
  refine jsE 16 fun i q=>?_
  by_cases hc:(cutL i l).length=0
  ·rw[if_pos hc,if_pos hc];exact bM _
  ·rw[if_neg hc,if_neg hc]
   simp only[cF,fL,bS];exact ih _ _ (jeL h hc).1
theorem jv4(out:List Pl):∀ (f:Nat) (p:vB) (l:vL),jar f l->(metF out (f+1) p l).length<=cntT f l:=by
 intro f;induction f with
 | zero =>
  intro p l h;rw[metF,jfX h];split
  ·exact cB _
  ·exact bM _
 | succ f ih =>
  intro p l h;rw[metF];split
  ·exact cB _
  ·exact job ih h p
theorem jiH{S:vT}{out:List Pl}{f:Nat}(ih:∀ (t:Pl) (l:vL) (k1:Nat) (ts M:List Pl) (R:vL),DenW S f t l->1<=k1->(∀ k,k1<=k->k<=400->jcs S out k ts M R)->∀ K,k1+(metF out (f+1) t.1 l).length<=K->K<=400->jcs S out K (t :: ts) (metF out (f+1) t.1 l++M) ((jgF out (f+1) t.1 l).map keyE++R)) :
  ∀ (ks:List (vB × vL)) (k1:Nat) (ts M:List Pl) (R:vL),(∀ k∈ks,DenW S f (k.1,refT k.2) k.2)->1<=k1->(∀ k,k1<=k->k<=400->jcs S out k ts M R)->∀ K,k1+(ks.flatMap fun k=>metF out (f+1) k.1 k.2).length<=K->K<=400 ->
   jcs S out K ((ks.map fun k=>(k.1,refT k.2))++ts) ((ks.flatMap fun k=>metF out (f+1) k.1 k.2)++M) ((ks.flatMap fun k=>jgF out (f+1) k.1 k.2).map keyE++R)
 | [],k1,ts,M,R,_,_,H,K,h2,h3=>H K (by simpa using h2) h3
 | k :: ks,k1,ts,M,R,hD,h1,H,K,h2,h3=>by
  rw[cF,bF]at h2
  have:=ih (k.1,refT k.2) k.2 (k1+(ks.flatMap fun k=>metF out (f+1) k.1 k.2).length) _ _ _ (hD k bD) vO (fun e h o=>jiH ih ks k1 ts M R (fun x q=>hD x (bC _ q)) h1 H e h o) K (by show _+(metF out (f+1) k.1 k.2).length<=K;omega) h3
  rw[bL,cF,cF,bY,bW,bW];exact this
theorem DenW.size1{S:vT}{f:Nat}{t:Pl}{l:vL}(h:DenW S f t l):t.1.size<=10000:=by
 obtain⟨q,e⟩:=List.exists_mem_of_ne_nil _ h.ne
 have:=h.size q e
 omega
theorem DenW.is{S:vT}{f:Nat}{t:Pl}{l:vL}(h:DenW S f t l):jgK S t.2 (some (jan (jab f) l)):=by
 have e:=(good f l h.rows).2.1 h.ne;have q:=jvS (S:=S) e (fun o=>h.has _ (jbS _) o);rw[h.ref];unfold refT;rw[<-jhP h.rows];exact q
theorem juG{S:vT}{out:List Pl}:∀ (f:Nat) (t:Pl) (l:vL) (q:Nat) (e M:List Pl) (R:vL),DenW S f t l->1<=q->(∀ k,q<=k->k<=400->jcs S out k e M R)->∀ K,q+(metF out (f+1) t.1 l).length<=K->K<=400 ->
  jcs S out K (t :: e) (metF out (f+1) t.1 l++M) ((jgF out (f+1) t.1 l).map keyE++R):=by
 intro f;induction f with
 | zero =>
  intro t l q e M R h E H K o A;have z:t=(t.1,refT l):=Prod.ext rfl h.ref;rw[metF,jfX h.rows, <-z]at o;rw[metF,jgF,jfX h.rows, <-z]
  obtain⟨K,rfl⟩:∃ K',K=K'+1:=⟨K - 1,by omega⟩
  by_cases ho:t∈out
  ·rw[if_pos ho,if_pos ho]
   exact .skip K t e M R ho (H _ vO A)
  ·rw[if_neg ho,if_neg ho]
   rw[if_neg ho]at o;simp only[fL,iP]at o
   have:=jcs.go K t e _ M R ho h.size1 h.is (by
    rw[jgO h.rows t.1,jfX h.rows];exact H K vO vO)
   rw[jmP h.rows t.1 h.key]at this;simp only[fL,bS];exact this
 | succ f ih =>
  intro t l q e M R h E H K o A;have z:t=(t.1,refT l):=Prod.ext rfl h.ref;rw[metF, <-z]at o;rw[metF,jgF, <-z]
  obtain⟨K,rfl⟩:∃ K',K=K'+1:=⟨K - 1,by omega⟩
  by_cases ho:t∈out
  ·rw[if_pos ho,if_pos ho]
   exact .skip K t e M R ho (H _ vO A)
  ·rw[if_neg ho,if_neg ho]
   rw[if_neg ho]at o;simp only[bP]at o
   have:=jcs.go K t e _ _ _ ho h.size1 h.is (by
    rw[jgO h.rows t.1];exact jiH ih (jcf t.1 l) q e M R (fun k J=>jrn h.rows h.has h.key h.size J) E H K vO vO)
   rw[jmP h.rows t.1 h.key]at this;rw[bY,bW];exact this
def topP(l:vL):Pl:=(⟨#[]⟩,jaC (shaB (jav l).text))
def metT(out:List Pl)(l:vL):List Pl:=if topP l∈out then []else topP l ::(jcf ⟨#[]⟩ (jaP l)).flatMap fun k=>metF out 12 k.1 k.2
def jmm(out:List Pl)(l:vL):vL:=if topP l∈out then []else (ownP ⟨#[]⟩ (jaP l)++(jcf ⟨#[]⟩ (jaP l)).flatMap fun k=>jgF out 12 k.1 k.2).map keyE
theorem jhG{S:vT}{out:List Pl}{l:vL}(h:HasM S l):jcs S out 400 [topP l] (metT out l) (jmm out l):=by
 have A:=jau h.ok;have e:=jbm A;have E:(jaP l).length<=40:=by unfold jaP;rw[cC];exact A.len
 unfold metT jmm
 by_cases ho:topP l∈out
 ·rw[if_pos ho,if_pos ho]
  exact .skip 399 _ _ _ _ ho (.nil _)
 ·rw[if_neg ho,if_neg ho]
  have H:∀ q∈jaP l,jda ((⟨#[]⟩:vB)++q.1)=true:=fun q z=>by
   obtain⟨p,Z,rfl⟩:=bH.1 z
   rw[jom];exact jow p.1
  have K:∀ q∈jaP l,(⟨#[]⟩:vB).size+q.1.size<=12:=fun q z=>by
   have:=(e.size q z).2.1
   show 0+q.1.size<=12;omega
  have hc:((jcf ⟨#[]⟩ (jaP l)).flatMap fun k=>metF out 12 k.1 k.2).length+1<=130:=by
   have J:((jcf ⟨#[]⟩ (jaP l)).flatMap fun k=>metF out 12 k.1 k.2).length+1<=cntT 12 (jaP l):=job (jv4 out 11) e ⟨#[]⟩
   by_cases hn:jaP l=[]
   ·rw[hn,show jcf ⟨#[]⟩ ([]:vL)=[]from rfl];exact Nat.le_add_left 1 129
   ·have:=(juT 12 _ e hn).all
    omega
  have o:jgK S (topP l).2 (some (jan (jab 12) (jaP l))):=by
   obtain⟨y,J,O⟩:=h.has _ (jbS _)
   refine .inr ⟨shaB (jav l).text,jbg _,rfl,.inr ⟨y,_,J,?_,rfl⟩⟩;rw[O]
   refine⟨?_,12,(good 12 _ e).1⟩
   rfl
  have:=jcs.go (out:=out) 399 (topP l) [] _ _ _ ho (by show 0<=10000;omega) o (by
   rw[show (topP l).1=⟨#[]⟩from rfl,jgO e ⟨#[]⟩];exact jiH (f:=11) (juG 11) (jcf ⟨#[]⟩ (jaP l)) 1 [] [] [] (fun k Q=>jrn (t:=(⟨#[]⟩,⟨#[]⟩)) e (fun x X _=>h.has x X) H K Q) (bM _) (fun k _ _=>.nil k) 399 (by show 1+(List.flatMap (fun k=>metF out 12 k.1 k.2) (jcf ⟨#[]⟩ (jaP l))).length<=399;omega) vO)
  rw[show (topP l).1=⟨#[]⟩from rfl,jmP e ⟨#[]⟩ H,bS,bS, <-bY]at this;exact this
section
attribute [local go_sem] Oper.semAt_some
theorem jhj{P:Program}{w:vW}{ops:Array Oper}{rest:List Oper}{o:Oper}{a:Act}{Q:Exit->Act->vW->Prop}{b:BinOp}{T T':TypeId}(x y:Operand)(ho:o.op=.binOp b T x y T')(hw:Region.wanted o (yielded ops a.tmps)=true)(vx vy v:vV)(hx:a.eval x=vx)(hy:a.eval y=vy)
  (hg:(eqGuard b T x y vx vy).run P w=.ok () w) (hr:(binOp b T vx vy).run P w=.ok v w) (h:wpList P ops Q rest (a.put o.dst v) w):wpList P ops Q (o :: rest) a w:=by
 unfold wpList;rw[if_pos hw];refine .inl (jcr (v:=v) (w':=w) ?_ h);simp only[execOp,ho,hx,hy,bT,hg,hr,Result.andThen,cI]
end
section
attribute [local go_sem] Oper.semAt_some
def ErrT(w:vW):Prop:=w.cell? ⟨1,0,none⟩=some (.iface 193 (.agg #[.pointer (some ⟨3,106,none⟩)]))
theorem ErrT.ext{w w':vW}(h:ErrT w)(k:Ext w w'):ErrT w':=jaa h k
end
end Go.Proofs.YtmobgkphhbmhbaaGreatDoor
