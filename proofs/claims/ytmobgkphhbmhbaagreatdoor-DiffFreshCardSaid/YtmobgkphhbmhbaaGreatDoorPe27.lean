/- Lemmas; each is under no condition but those that it states. -/
import Derived.Test.YtmobgkphhbmhbaaGreatDoorPe26
import Derived.Test.YtmobgkphhbmhbaaGreatDoorPe25
namespace Go.Proofs.YtmobgkphhbmhbaaGreatDoor
set_option linter.unusedSimpArgs false
set_option linter.unusedVariables false
set_option maxRecDepth 100000
set_option maxHeartbeats 16000000
open Go Go.RowKit
def jct(n:jae)(p:vB):List Pl:=(List.range 16).flatMap fun i=>if (n.refs.getD i ⟨#[]⟩).size=0 then []else [((p++n.path)++(if n.kind=3 then nib1 i else ⟨#[]⟩),n.refs.getD i ⟨#[]⟩)]
def entN(n:jae)(p:vB):vL:=if n.value.size=0 then []else keyR (p++n.path) n.value
inductive jcq (S:vT) (out:List Pl):Nat->List Pl->List Pl->vL->Prop
 | nil (k:Nat):jcq S out k [] [] []
 | full (ts:List Pl):jcq S out 0 ts [] []
 | skip (k:Nat) (t:Pl) (ts:List Pl) (M:List Pl) (R:vL):t∈out->jcq S out (k+1) ts M R->jcq S out (k+1) (t :: ts) M R
 | no (k:Nat) (t:Pl) (ts:List Pl) (M:List Pl) (R:vL):t ∉ out->jgH S t.2 none->jcq S out (k+1) ts M R->jcq S out (k+1) (t :: ts) M R
 | go (k:Nat) (t:Pl) (ts:List Pl) (n:jae) (M:List Pl) (R:vL):t ∉ out->t.1.size<=10000->jgH S t.2 (some n)->jcq S out k (jct n t.1++ts) M R->jcq S out (k+1) (t :: ts) (t :: M) (entN n t.1++R)
theorem jfh(a:vB):a++(⟨#[]⟩:vB)=a:=ByteArray.append_empty
theorem jog(a:vB):(⟨#[]⟩:vB)++a=a:=ByteArray.empty_append
theorem jlh{α:Type}(g:Nat->List α)(h:∀ i,i≠0->i < 16->g i=[]):(List.range 16).flatMap g=g 0:=by
 show (g 0++(g 1++(g 2++(g 3++(g 4++(g 5++(g 6++(g 7++(g 8++(g 9++(g 10++(g 11++(g 12++(g 13++(g 14++(g 15++[]))))))))))))))))=g 0;rw[h 1 vI vI,h 2 vI vI,h 3 vI vI,h 4 vI vI,h 5 vI vI,h 6 vI vI,h 7 vI vI,h 8 vI vI,h 9 vI vI,h 10 vI vI,h 11 vI vI,h 12 vI vI,h 13 vI vI,h 14 vI vI,h 15 vI vI]
 simp
theorem jjg{α β:Type}{g h:α->List β}:∀ {l:List α},(∀ i∈l,g i=h i)->l.flatMap g=l.flatMap h
 | [],_=>rfl
 | x :: l,H=>by rw[cE,cE,H x bF,jjg fun i e=>H i (bD _ e)]
theorem jfY(k i:Nat):(jav k).getD i ⟨#[]⟩=⟨#[]⟩:=by
 unfold jav;rw[bH,List.getElem?_replicate];split <;> rfl
theorem jgL{f:Nat}{l:vL}(h:jaq f l)(p:vB):jct (jak (jab f) l) p=(jb9 p l).map fun k=>(k.1,refT k.2):=by
 by_cases h1:l.length<=1
 ·have e:∀ i,(jak (jab f) l).refs.getD i ⟨#[]⟩=⟨#[]⟩:=fun i=>by
   unfold jak
   by_cases h0:l.length=0
   ·rw[if_pos h0];exact jfY 16 i
   ·rw[if_neg h0,if_pos vO];exact jfY 16 i
  unfold jb9 jct;rw[if_pos h1];simp only[e];rfl
 have H:2<=l.length:=vO
 cases f with
 | zero=>have:=jbv h;omega
 | succ f =>
  by_cases h3:0 < comK l
  ·obtain⟨o,z,_,_⟩:=jd0 h H h3
   have E:jak (jab (f+1)) l=⟨2,comP l,⟨#[]⟩,refB (jab (f+1) (jag (comK l) l)).text :: jav 15⟩:=by unfold jak;rw[if_neg vO,if_neg vO,if_pos h3];rfl
   have J:=jks o z;rw[E];unfold jct jb9;rw[if_neg h1,if_pos h3,jlh]
   ·show (if (refB (jab (f+1) (jag (comK l) l)).text).size=0 then []else _)=_
    rw[if_neg J,if_neg (show ¬((2:Nat)=3) by decide),jfh,jhP o];rfl
   ·intro i q _
    obtain⟨j,rfl⟩:∃ j,i=j+1:=⟨i - 1,by omega⟩
    show (if ((jav 15).getD j ⟨#[]⟩).size=0 then []else _)=[];rw[jfY];rfl
  ·have E:jak (jab (f+1)) l=⟨3,⟨#[]⟩,if (l.getD 0 pd).1.size=0 then (l.getD 0 pd).2 else ⟨#[]⟩,(List.range 16).map fun i=>if (cutL i l).length=0 then ⟨#[]⟩else refB (jab (f+1) (jag 1 (cutL i l))).text⟩:=by unfold jak;rw[if_neg vO,if_neg vO,if_neg h3]
   rw[E];unfold jct jb9;rw[if_neg h1,if_neg h3,List.map_flatMap];refine jjg fun i q=>?_;have q:=dQ.1 q;simp only[jfs _ q]
   by_cases hc:(cutL i l).length=0
   ·rw[if_pos hc,if_pos hc];rfl
   ·obtain⟨o,z⟩:=jeO h hc
    rw[if_neg hc,if_neg hc,if_neg (jks o z)];simp only[if_true,jfh];rw[jhP o];rfl
def keyE(e:Pair):Pair:=(jbz e.1,e.2)
theorem jmJ{f:Nat}{l:vL}(h:jaq f l)(p:vB)(hk:∀ q∈l,jdc (p++q.1)=true):entN (jak (jab f) l) p=(ownP p l).map keyE:=by
 by_cases h0:l.length=0
 ·rw[bE h0];rfl
 by_cases h1:l.length=1
 ·obtain⟨q,rfl⟩:=fB.1 h1
  have o:jak (jab f) [q]=⟨1,q.1,q.2,jav 16⟩:=rfl;have K:=h.size q bF;rw[o];unfold entN keyR ownP;rw[if_neg (by show ¬ q.2.size=0;omega),if_pos (hk q bF),if_pos vO];rfl
 have O:2<=l.length:=vO
 by_cases h3:0 < comK l
 ·have o:(jak (jab f) l).value=⟨#[]⟩:=by unfold jak;rw[if_neg h0,if_neg h1,if_pos h3]
  unfold entN ownP;rw[o,if_pos (show (⟨#[]⟩:vB).size=0 from rfl),if_neg (show ¬ l.length<=1 by omega),if_pos h3];rfl
 ·have o:jak (jab f) l=⟨3,⟨#[]⟩,if (l.getD 0 pd).1.size=0 then (l.getD 0 pd).2 else ⟨#[]⟩,(List.range 16).map fun i=>if (cutL i l).length=0 then ⟨#[]⟩else refB (jab f (jag 1 (cutL i l))).text⟩:=by unfold jak;rw[if_neg h0,if_neg h1,if_neg h3]
  have E:l≠[]:=fun e=>h0 (by rw[e];rfl);rw[o];unfold entN ownP;rw[if_neg (show ¬ l.length<=1 by omega),if_neg h3,jjc h E]
  by_cases hz:(l.getD 0 pd).1.size=0
  ·have H:=jdq (l:=l) vO
   have Q:=h.size _ H;have z:=hk _ H;have J:(l.getD 0 pd).1=⟨#[]⟩:=jbo hz;rw[J,jfh]at z;simp only[if_pos hz,jfh];rw[if_neg vO];unfold keyR;rw[if_pos z];show _=[keyE (p++(l.getD 0 pd).1,(l.getD 0 pd).2)];rw[J,jfh];rfl
  ·simp only[if_neg hz]
   rw[if_pos (show (⟨#[]⟩:vB).size=0 from rfl)];rfl
structure DenW(S:vT)(f:Nat)(t:Pl)(l:vL):Prop where
 rows:jaq f l
 ne:l≠[]
 has:∀ x∈jam (jab (f+1) l),32<=x.size->HasS S x
 key:∀ q∈l,jdc (t.1++q.1)=true
 size:∀ q∈l,t.1.size+q.1.size<=12
 ref:t.2=refT l
theorem jp5{k:vB × vL}{p:vB}{l:vL}(h:∀ e∈absP k.1 k.2,e∈absP p l){q:Pair}(hq:q∈k.2):∃ r∈l,k.1++q.1=p++r.1:=by
 obtain⟨r,o,e⟩:=bC.1 (h (k.1++q.1,q.2) (bC.2 ⟨q,hq,rfl⟩))
 exact⟨r,o,(congrArg Prod.fst e).symm⟩
theorem jrt{S:vT}{f:Nat}{t:Pl}{l:vL}(h:jaq (f+1) l)(hh:∀ x∈jam (jab (f+1+1) l),32<=x.size->HasS S x)(hk:∀ q∈l,jdc (t.1++q.1)=true)(hs:∀ q∈l,t.1.size+q.1.size<=12){k:vB × vL}(hK:k∈jb9 t.1 l):DenW S f (k.1,refT k.2) k.2:=by
 have K:=jfX h k hK
 refine⟨K.rows,K.ne,fun x H o=>hh x (K.text x H o) o,fun q z=>?_,fun q z=>?_,rfl⟩
 ·obtain⟨r,E,e⟩:=jp5 K.abs z
  show jdc (k.1++q.1)=true;rw[e];exact hk r E
 ·obtain⟨r,E,e⟩:=jp5 K.abs z
  have e:=congrArg ByteArray.size e;rw[cO,cO]at e
  have:=hs r E
  show k.1.size+q.1.size<=12;omega
theorem jlg{α:Type}(g:Nat->List α):∀ n,((List.range n).flatMap g).length=sumF (fun i=>(g i).length) n
 | 0=>rfl
 | n+1=>by
  rw[fX,dK,bG,jlg g n];simp[sumF]
theorem jsN{g h:Nat->Nat}:∀ n,(∀ i,i < n->g i<=h i)->sumF g n<=sumF h n
 | 0,_=>bM _
 | n+1,H=>by
  have:=jsN n (fun i e=>H i vO)
  have:=H n vO
  rw[sumF,sumF];omega
theorem jn5{out:List Pl}{f:Nat}(ih:∀ (p:vB) (l:vL),jaq f l->(metF out (f+1) p l).length<=cntT f l){l:vL}(h:jaq (f+1) l)(p:vB) :
  ((jb9 p l).flatMap fun k=>metF out (f+1) k.1 k.2).length+1<=cntT (f+1) l:=by
 rw[cntT,gR];refine Nat.add_le_add_left ?_ 1;unfold jb9
 by_cases h1:l.length<=1
 ·rw[if_pos h1,if_pos h1];exact bM _
 rw[if_neg h1,if_neg h1]
 by_cases h3:0 < comK l
 ·rw[if_pos h3,if_pos h3]
  obtain⟨e,o,_,_⟩:=jd0 h vO h3
  simp only[cE,fM,bR];exact ih _ _ e
 ·rw[if_neg h3,if_neg h3,List.flatMap_assoc,jlg]
  refine jsN 16 fun i q=>?_
  by_cases hc:(cutL i l).length=0
  ·rw[if_pos hc,if_pos hc];exact bM _
  ·rw[if_neg hc,if_neg hc]
   simp only[cE,fM,bR];exact ih _ _ (jeO h hc).1
theorem jwq(out:List Pl):∀ (f:Nat) (p:vB) (l:vL),jaq f l->(metF out (f+1) p l).length<=cntT f l:=by
 intro f;induction f with
 | zero =>
  intro p l h;rw[metF,jfW h];split
  ·exact cC _
  ·exact bM _
 | succ f ih =>
  intro p l h;rw[metF];split
  ·exact cC _
  ·exact jn5 ih h p
theorem jiK{S:vT}{out:List Pl}{f:Nat}(ih:∀ (t:Pl) (l:vL) (k1:Nat) (ts M:List Pl) (R:vL),DenW S f t l->1<=k1->(∀ k,k1<=k->k<=400->jcq S out k ts M R)->∀ K,k1+(metF out (f+1) t.1 l).length<=K->K<=400->jcq S out K (t :: ts) (metF out (f+1) t.1 l++M) ((jgC out (f+1) t.1 l).map keyE++R)) :
  ∀ (ks:List (vB × vL)) (k1:Nat) (ts M:List Pl) (R:vL),(∀ k∈ks,DenW S f (k.1,refT k.2) k.2)->1<=k1->(∀ k,k1<=k->k<=400->jcq S out k ts M R)->∀ K,k1+(ks.flatMap fun k=>metF out (f+1) k.1 k.2).length<=K->K<=400 ->
   jcq S out K ((ks.map fun k=>(k.1,refT k.2))++ts) ((ks.flatMap fun k=>metF out (f+1) k.1 k.2)++M) ((ks.flatMap fun k=>jgC out (f+1) k.1 k.2).map keyE++R)
 | [],k1,ts,M,R,_,_,H,K,h2,h3=>H K (by simpa using h2) h3
 | k :: ks,k1,ts,M,R,hD,h1,H,K,h2,h3=>by
  rw[cE,bG]at h2
  have:=ih (k.1,refT k.2) k.2 (k1+(ks.flatMap fun k=>metF out (f+1) k.1 k.2).length) _ _ _ (hD k bF) vO (fun e h o=>jiK ih ks k1 ts M R (fun x q=>hD x (bD _ q)) h1 H e h o) K (by show _+(metF out (f+1) k.1 k.2).length<=K;omega) h3
  rw[bJ,cE,cE,bY,bX,bX];exact this
theorem DenW.size1{S:vT}{f:Nat}{t:Pl}{l:vL}(h:DenW S f t l):t.1.size<=10000:=by
 obtain⟨q,e⟩:=List.exists_mem_of_ne_nil _ h.ne
 have:=h.size q e
 omega
theorem DenW.is{S:vT}{f:Nat}{t:Pl}{l:vL}(h:DenW S f t l):jgH S t.2 (some (jak (jab f) l)):=by
 have e:=(good f l h.rows).2.1 h.ne;have q:=jwd (S:=S) e (fun o=>h.has _ (jbB _) o);rw[h.ref];unfold refT;rw[<-jhP h.rows];exact q
theorem juX{S:vT}{out:List Pl}:∀ (f:Nat) (t:Pl) (l:vL) (q:Nat) (e M:List Pl) (R:vL),DenW S f t l->1<=q->(∀ k,q<=k->k<=400->jcq S out k e M R)->∀ K,q+(metF out (f+1) t.1 l).length<=K->K<=400 ->
  jcq S out K (t :: e) (metF out (f+1) t.1 l++M) ((jgC out (f+1) t.1 l).map keyE++R):=by
 intro f;induction f with
 | zero =>
  intro t l q e M R h J H K o E;have z:t=(t.1,refT l):=Prod.ext rfl h.ref;rw[metF,jfW h.rows, <-z]at o;rw[metF,jgC,jfW h.rows, <-z]
  obtain⟨K,rfl⟩:∃ K',K=K'+1:=⟨K - 1,by omega⟩
  by_cases ho:t∈out
  ·rw[if_pos ho,if_pos ho]
   exact .skip K t e M R ho (H _ vO E)
  ·rw[if_neg ho,if_neg ho]
   rw[if_neg ho]at o;simp only[fM,iX]at o
   have:=jcq.go K t e _ M R ho h.size1 h.is (by
    rw[jgL h.rows t.1,jfW h.rows];exact H K vO vO)
   rw[jmJ h.rows t.1 h.key]at this;simp only[fM,bR];exact this
 | succ f ih =>
  intro t l q e M R h J H K o E;have z:t=(t.1,refT l):=Prod.ext rfl h.ref;rw[metF, <-z]at o;rw[metF,jgC, <-z]
  obtain⟨K,rfl⟩:∃ K',K=K'+1:=⟨K - 1,by omega⟩
  by_cases ho:t∈out
  ·rw[if_pos ho,if_pos ho]
   exact .skip K t e M R ho (H _ vO E)
  ·rw[if_neg ho,if_neg ho]
   rw[if_neg ho]at o;simp only[bQ]at o
   have:=jcq.go K t e _ _ _ ho h.size1 h.is (by
    rw[jgL h.rows t.1];exact jiK ih (jb9 t.1 l) q e M R (fun k O=>jrt h.rows h.has h.key h.size O) J H K vO vO)
   rw[jmJ h.rows t.1 h.key]at this;rw[bY,bX];exact this
def topP(l:vL):Pl:=(⟨#[]⟩,jaC (shaB (jau l).text))
def metT(out:List Pl)(l:vL):List Pl:=if topP l∈out then []else topP l ::(jb9 ⟨#[]⟩ (jaR l)).flatMap fun k=>metF out 12 k.1 k.2
def jma(out:List Pl)(l:vL):vL:=if topP l∈out then []else (ownP ⟨#[]⟩ (jaR l)++(jb9 ⟨#[]⟩ (jaR l)).flatMap fun k=>jgC out 12 k.1 k.2).map keyE
theorem jhJ{S:vT}{out:List Pl}{l:vL}(h:HasM S l):jcq S out 400 [topP l] (metT out l) (jma out l):=by
 have E:=jaw h.ok;have e:=jbt E;have H:(jaR l).length<=40:=by unfold jaR;rw[bZ];exact E.len
 unfold metT jma
 by_cases ho:topP l∈out
 ·rw[if_pos ho,if_pos ho]
  exact .skip 399 _ _ _ _ ho (.nil _)
 ·rw[if_neg ho,if_neg ho]
  have J:∀ q∈jaR l,jdc ((⟨#[]⟩:vB)++q.1)=true:=fun q z=>by
   obtain⟨p,hp,rfl⟩:=bC.1 z
   rw[jog];exact jor p.1
  have O:∀ q∈jaR l,(⟨#[]⟩:vB).size+q.1.size<=12:=fun q z=>by
   have:=(e.size q z).2.1
   show 0+q.1.size<=12;omega
  have hc:((jb9 ⟨#[]⟩ (jaR l)).flatMap fun k=>metF out 12 k.1 k.2).length+1<=130:=by
   have K:((jb9 ⟨#[]⟩ (jaR l)).flatMap fun k=>metF out 12 k.1 k.2).length+1<=cntT 12 (jaR l):=jn5 (jwq out 11) e ⟨#[]⟩
   by_cases hn:jaR l=[]
   ·rw[hn,show jb9 ⟨#[]⟩ ([]:vL)=[]from rfl];exact Nat.le_add_left 1 129
   ·have:=(ju8 12 _ e hn).all
    omega
  have o:jgH S (topP l).2 (some (jak (jab 12) (jaR l))):=by
   obtain⟨y,K,Q⟩:=h.has _ (jbB _)
   refine .inr ⟨shaB (jau l).text,jbi _,rfl,.inr ⟨y,_,K,?_,rfl⟩⟩;rw[Q]
   refine⟨?_,12,(good 12 _ e).1⟩
   rfl
  have:=jcq.go (out:=out) 399 (topP l) [] _ _ _ ho (by show 0<=10000;omega) o (by
   rw[show (topP l).1=⟨#[]⟩from rfl,jgL e ⟨#[]⟩];exact jiK (f:=11) (juX 11) (jb9 ⟨#[]⟩ (jaR l)) 1 [] [] [] (fun k X=>jrt (t:=(⟨#[]⟩,⟨#[]⟩)) e (fun x Z _=>h.has x Z) J O X) (bM _) (fun k _ _=>.nil k) 399 (by show 1+(List.flatMap (fun k=>metF out 12 k.1 k.2) (jb9 ⟨#[]⟩ (jaR l))).length<=399;omega) vO)
  rw[show (topP l).1=⟨#[]⟩from rfl,jmJ e ⟨#[]⟩ J,bR,bR, <-bY]at this;exact this
section
attribute [local go_sem] Oper.semAt_some
theorem jhm{P:Program}{w:vW}{ops:Array Oper}{rest:List Oper}{o:Oper}{a:Act}{Q:Exit->Act->vW->Prop}{b:BinOp}{T T':TypeId}(x y:Operand)(ho:o.op=.binOp b T x y T')(hw:Region.wanted o (yielded ops a.tmps)=true)(vx vy v:vV)(hx:a.eval x=vx)(hy:a.eval y=vy)
  (hg:(eqGuard b T x y vx vy).run P w=.ok () w) (hr:(binOp b T vx vy).run P w=.ok v w) (h:wpList P ops Q rest (a.put o.dst v) w):wpList P ops Q (o :: rest) a w:=by
 unfold wpList;rw[if_pos hw];refine .inl (jco (v:=v) (w':=w) ?_ h);simp only[execOp,ho,hx,hy,bT,hg,hr,Result.andThen,cJ]
end
section
attribute [local go_sem] Oper.semAt_some
def ErrT(w:vW):Prop:=w.cell? ⟨1,0,none⟩=some (.iface 193 (.agg #[.pointer (some ⟨3,106,none⟩)]))
theorem ErrT.ext{w w':vW}(h:ErrT w)(k:Ext w w'):ErrT w':=jaa h k
end
end Go.Proofs.YtmobgkphhbmhbaaGreatDoor
