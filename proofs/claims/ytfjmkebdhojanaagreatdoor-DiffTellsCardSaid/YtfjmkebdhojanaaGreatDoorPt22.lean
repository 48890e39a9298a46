/- Lemmas; each is under no condition but those that it states. -/
import Derived.Test.YtfjmkebdhojanaaGreatDoorPt21
namespace Go.Proofs.YtfjmkebdhojanaaGreatDoor
set_option linter.unusedSimpArgs false
set_option linter.unusedVariables false
set_option maxRecDepth 100000
set_option maxHeartbeats 16000000
open Go Go.RowKit
def jcp(P:PA)(d:Chg):PA:=if d.gone then jbT P (jbv d.key)else putP P (jbv d.key) d.value
def jmn(q:vN)(o:Option vB)(c:Chg):Option vB:=if q=(jbv c.key).data.toList then c.o else o
theorem jt4{P:PA}(hP:P=.no\/CanP P){c:Chg}(hc:c.bad=false):(jcp P c=.no\/CanP (jcp P c))/\∀ q,getL (jcp P c) q=jmn q (getL P q) c:=by
 have A:=jex c.key;unfold jcp jmn Chg.o;cases hg:c.gone with
 | true =>
  rw[if_pos rfl,if_pos rfl];rcases hP with rfl | hP
  ·refine⟨.inl rfl,fun q=>?_⟩
   show none=if q=_ then none else none
   split <;> rfl
  ·exact jnT P hP _ A
 | false =>
  rw[if_neg ff,if_neg ff];have E:c.value.size≠0:=by
   unfold Chg.bad at hc;rw[hg]at hc;simp only[Bool.false_and,Bool.or_false,Bool.not_false,Bool.true_and,gU,Bool.not_eq_false']at hc;have H:=hc.2;unfold jbY at H
   have:=of_decide_eq_true H;omega
  have e:CanP P\/P=.no\/P=.nil:=by
   rcases hP with h | h
   ·exact .inr (.inl h)
   ·exact .inl h
  exact⟨.inr (jnL P e _ _ A E),jn0 P e _ _ E⟩
theorem jsi:∀ (cs:List Chg) (P:PA),(P=.no\/CanP P)->cs.any Chg.bad=false->(cs.foldl jcp P=.no\/CanP (cs.foldl jcp P))/\∀ q,getL (cs.foldl jcp P) q=cs.foldl (jmn q) (getL P q)
 | [],P,hP,_=>⟨hP,fun _=>rfl⟩
 | c :: cs,P,hP,hb=>by
  rw[List.any_cons,gU]at hb
  obtain⟨e,o⟩:=jt4 hP hb.1
  obtain⟨A,E⟩:=jsi cs _ e hb.2
  refine⟨A,fun q=>?_⟩
  rw[dM,E,o,dM]
theorem jtt{a b:vB}(h:jbv a=jbv b):a=b:=by rw[<-jfK a,h,jfK]
theorem jqI(k:vB):jmn (jbv k).data.toList=jmm k.data.toList:=by
 funext o c
 unfold jmn jmm Chg.o
 by_cases e:k.data.toList=c.key.data.toList
 ·rw[if_pos e,if_pos (by rw[jbo e])]
 ·rw[if_neg e,if_neg (fun h=>e (by rw[jtt (jbo h)]))]
theorem jjY{q:vN}(h:∀ k,q≠(jbv k).data.toList)(o:Option vB):∀ cs:List Chg,cs.foldl (jmn q) o=o
 | []=>rfl
 | c :: cs=>by
  have e:jmn q o c=o:=by unfold jmn;rw[if_neg (h c.key)]
  rw[dM,e,jjY h o cs]
theorem jlo(k:vB):∀ l:vL,valL l k=look l k.data.toList
 | []=>rfl
 | q :: r=>by
  rw[jbm];show (if q.1=k then some q.2 else valL r k)=_
  by_cases e:q.1=k
  ·rw[if_pos e,if_pos (by rw[<-e])]
  ·rw[if_neg e,if_neg (fun h=>e (jbo h.symm)),jlo k r]
theorem jpB{l:vL}(h:jap 12 l):ja2 13 l=.no\/CanP (ja2 13 l):=by
 by_cases h0:l.length=0
 ·exact .inl (jbV _ h0)
 ·exact .inr (jpA 12 l h (fun e=>h0 (by rw[e];rfl))).1
theorem jvi{l m:vL}(hl:jaz l=0)(hm:jaz m=0){cs:List Chg}(h:jly l m cs):cs.foldl jcp (ja2 13 (jaP l))=ja2 13 (jaP m):=by
 have o:=jbD (jaD hl);have E:=jbD (jaD hm)
 obtain⟨H,J⟩:=jsi cs _ (jpB o) h.fine
 refine jtr E H fun p K=>?_;rw[J,jk4 12 _ o p K]
 by_cases hk:∃ k,p=jbv k
 ·obtain⟨k,rfl⟩:=hk
  rw[jqI,jp2,jp2,jlo,jlo];exact h.looks k.data.toList
 ·have O:∀ k,p.data.toList≠(jbv k).data.toList:=fun k e=>hk ⟨k,jbo e⟩
  have A:∀ r:vL,valL (jaP r) p=none:=fun r=>jgV fun q Q e=>by
   obtain⟨x,_,rfl⟩:=bK.1 Q
   exact hk ⟨x.1,e.symm⟩
  rw[jjY O,A,A]
def Dp:PA->Nat->Prop
 | .nil,_=>True
 | .no,_=>True
 | .leaf q _,n=>q.size<=n
 | .ext q m,n=>q.size<=n/\Dp m (n - q.size)
 | .br _ ks,n=>∀ i,(ks i).isNil=false->1<=n/\Dp (ks i) (n - 1)
theorem jch:∀ (P:PA) (n m:Nat),Dp P n->n<=m->Dp P m
 | .nil,_,_,_,_=>trivial
 | .no,_,_,_,_=>trivial
 | .leaf q _,n,m,h,k=>bJ (show q.size<=n from h) k
 | .ext q x,n,m,h,k=>⟨bJ h.1 k,jch x _ _ h.2 vO⟩
 | .br _ ks,n,m,h,k=>fun i e=>⟨bJ (h i e).1 k,jch (ks i) _ _ (h i e).2 vO⟩
theorem jf6{a:vB}{P:PA}{n:Nat}(h:Dp P (n - a.size))(ha:a.size<=n):Dp (jcj a P) n:=by
 unfold jcj
 by_cases h0:a.size=0
 ·rw[if_pos h0];exact jch P _ _ h vO
 rw[if_neg h0];cases P with
 | nil=>trivial
 | no=>trivial
 | leaf q v =>
  have h:q.size<=n - a.size:=h;show (a++q).size<=n;rw[jc7];omega
 | ext q m =>
  have e:=h.1
  refine⟨by rw[jc7];omega,?_⟩
  rw[jc7];exact jch m _ _ h.2 vO
 | br v ks=>exact⟨ha,h⟩
theorem jiw{v:vB}{ks:Nat->PA}{n:Nat}(h:Dp (.br v ks) n){i:Nat}{P:PA}(h1:1<=n)(hP:Dp P (n - 1))(u:vB):Dp (.br u (setK ks i P)) n:=by
 intro j o
 by_cases e:j=i
 ·rw[e,jcn];exact⟨h1,hP⟩
 ·rw[jeW _ _ e]at o ⊢;exact h j o
theorem jiu{v:vB}{ks:Nat->PA}{n:Nat}(h:Dp (.br v ks) n){p:vB}(hp:p.size<=n)(u:vB):Dp (addK (.br v ks) p u) n:=by
 rw[jcW]
 by_cases h0:p.size=0
 ·rw[if_pos h0];exact h
 ·rw[if_neg h0]
  refine jiw h vO ?_ v;show (jbC p).size<=n - 1;unfold jbC;rw[ja1];omega
theorem jhR(v:vB)(n:Nat):Dp (.br v fun _=>.nil) n:=fun i e=>by cases e
theorem jfc(a b:vB):jal a b<=a.size/\jal a b<=b.size:=by
 have:=jbf a.data.toList b.data.toList
 unfold jal;rw[<-jaS, <-jaS];exact this.2
theorem joW:∀ (P:PA) (n:Nat) (p u:vB),Dp P n->p.size<=n->Dp (putP P p u) n
 | .nil,_,p,u,_,hp=>hp
 | .no,_,p,u,_,hp=>hp
 | .leaf q v,n,p,u,h,hp=>by
  have h:q.size<=n:=h
  obtain⟨E,H⟩:=jfc q p
  unfold putP
  by_cases e:p=q
  ·rw[if_pos e];exact hp
  rw[if_neg e];have A:(p.extract 0 (jal q p)).size=jal q p:=by rw[cJ];omega
  refine jf6 ?_ vO;rw[A];have o:=jiu (jhR ⟨#[]⟩ (n - jal q p)) (p:=q.extract (jal q p) q.size) (by rw[ja1];omega) v;rw[jcW]at o ⊢
  by_cases h0:(q.extract (jal q p) q.size).size=0
  ·rw[if_pos h0]at o ⊢
   exact jiu o (by rw[ja1];omega) u
  ·rw[if_neg h0]at o ⊢
   exact jiu o (by rw[ja1];omega) u
 | .ext q x,n,p,u,h,hp=>by
  obtain⟨E,H⟩:=jfc q p
  unfold putP
  by_cases e:jal q p=q.size
  ·rw[if_pos e]
   refine jf6 (joW x _ _ u h.2 ?_) h.1;rw[ja1];omega
  ·rw[if_neg e]
   have A:(p.extract 0 (jal q p)).size=jal q p:=by rw[cJ];omega
   refine jf6 ?_ vO;rw[A];have J:=h.1;refine jiu (jiw (jhR ⟨#[]⟩ _) vO (jf6 ?_ ?_) _) (by rw[ja1];omega) u
   ·rw[ja1]
    exact jch x _ _ h.2 vO
   ·rw[ja1];omega
 | .br v ks,n,p,u,h,hp=>by
  unfold putP
  by_cases h0:p.size=0
  ·rw[if_pos h0];exact h
  ·rw[if_neg h0]
   refine jiw h vO (joW (ks (jau p)) (n - 1) _ u ?_ ?_) v
   ·cases hn:(ks (jau p)).isNil with
    | true=>rw[jbF hn];trivial
    | false=>exact (h _ hn).2
   ·unfold jbC;rw[ja1];omega
theorem joV{v:vB}{ks:Nat->PA}{n:Nat}(h:Dp (.br v ks) n):Dp (jdt v ks) n:=by
 have o:∀ i∈idxK ks,(ks i).isNil=false:=fun i A=>by
  have:=(cP.1 A).2
  simpa using this
 unfold jdt;cases e:idxK ks with
 | nil =>
  show Dp (if v.size=0 then PA.no else .leaf ⟨#[]⟩ v) n
  by_cases h0:v.size=0
  ·rw[if_pos h0];trivial
  ·rw[if_neg h0];exact cD n
 | cons i r =>
  cases r with
  | nil =>
   show Dp (if v.size=0 then jcj ⟨#[UInt8.ofNat i]⟩ (ks i)else .br v ks) n
   by_cases h0:v.size=0
   ·rw[if_pos h0]
    obtain⟨E,H⟩:=h i (o i (by rw[e];exact bG))
    exact jf6 H E
   ·rw[if_neg h0];exact h
  | cons j r=>exact h
theorem jiv:∀ (P:PA) (n:Nat) (p:vB),Dp P n->Dp (jbT P p) n
 | .nil,_,_,_=>trivial
 | .no,_,_,_=>trivial
 | .leaf q v,n,p,h=>by
  unfold jbT
  by_cases e:p=q
  ·rw[if_pos e];trivial
  ·rw[if_neg e];exact h
 | .ext q x,n,p,h=>by
  unfold jbT;cases preB q p with
  | false=>rw[if_neg ff];exact h
  | true=>rw[if_pos rfl];exact jf6 (jiv x _ _ h.2) h.1
 | .br v ks,n,p,h=>by
  unfold jbT
  by_cases h0:p.size=0
  ·rw[if_pos h0];exact joV h
  ·rw[if_neg h0]
   cases hn:(ks (jau p)).isNil with
   | true=>rw[if_pos rfl];exact h
   | false =>
    rw[if_neg ff]
    obtain⟨o,A⟩:=h _ hn
    refine joV (jiw h o ?_ v)
    have:=jiv (ks (jau p)) (n - 1) (jbC p) A
    unfold unNo;cases (jbT (ks (jau p)) (jbC p)).isNo with
    | true=>rw[if_pos rfl];trivial
    | false=>rw[if_neg ff];exact this
theorem jto:∀ (f:Nat) (l:vL) (k:Nat),jap f l->jap k l->Dp (ja2 (f+1) l) k:=by
 intro f;have E:∀ (f:Nat) (l:vL) (k:Nat),jap k l->l.length=1->Dp (ja2 (f+1) l) k:=by
  intro f l k h J;rw[jb1 _ J];exact (h.size _ (jdy (l:=l) vO)).1
 induction f with
 | zero =>
  intro l k h K;have hl:=jbI h
  by_cases h0:l.length=0
  ·rw[jbV _ h0];trivial
  ·exact E 0 l k K vO
 | succ f ih =>
  intro l k h A
  by_cases h0:l.length=0
  ·rw[jbV _ h0];trivial
  by_cases J:l.length=1
  ·exact E _ l k A J
  have H:2<=l.length:=vO
  by_cases K:0 < comK l
  ·have X:=jdy (l:=l) vO
   have Z:=jdi h H;have o:=jbi h H;have a0:=(o _ X).2;have a1:=(A.size _ X).1;rw[jdA _ H K]
   refine⟨by rw[Z];omega,?_⟩
   rw[Z];exact ih _ _ (jef h H K).1 (jcb (comK l) A (fun p O q hq=>(o p O).1.trans (o q hq).1.symm) (fun p O=>(o p O).2))
  ·rw[jeS _ H K]
   intro i Q;have Q:(if (cutL i l).length=0 then PA.nil else ja2 (f+1) (jak 1 (cutL i l))).isNil=false:=Q;show 1<=k/\Dp (if (cutL i l).length=0 then PA.nil else ja2 (f+1) (jak 1 (cutL i l))) (k - 1)
   by_cases hc:(cutL i l).length=0
   ·rw[if_pos hc]at Q;cases Q
   ·rw[if_neg hc]
    refine⟨?_,ih _ _ (je5 h hc).1 (jcU i A)⟩
    cases e:cutL i l with
    | nil=>rw[e]at hc;exact (hc rfl).elim
    | cons p r =>
     obtain⟨O,a,t,J,H⟩:=jbA (show p∈cutL i l by rw[e];exact bG)
     have:=(A.size p O).1
     have h3:p.1.size=(a :: t).length:=by rw[<-jaS];exact congrArg List.length J
     rw[bF]at h3;omega
section
attribute [local go_sem] Oper.semAt_some
def noV:vV:=.iface 242 (.agg #[])
def jjs(b:Nat):vV:=.iface 231 (.pointer (some ⟨b,0,none⟩))
def extV(b:Nat):vV:=.iface 234 (.pointer (some ⟨b,0,none⟩))
def brV(b:Nat):vV:=.iface 237 (.pointer (some ⟨b,0,none⟩))
def brC(u:vB)(vk:Nat->vV):List vV:=.string u ::(List.range 16).map vk
def PaAt:PA->vV->(Nat->Prop)->vW->Prop
 | .nil,v,_,_=>v=.nilIface
 | .no,v,_,_=>v=noV
 | .leaf q u,v,D,W=>∃ b,v=jjs b/\D b/\Blk W b (.cells #[.string q,.string u] 233)
 | .ext q n,v,D,W=>∃ b T x Dn,v=extV b/\D b/\Blk W b (.cells #[.string q,.iface T x] 236)/\PaAt n (.iface T x) Dn W/\¬ Dn b/\∀ x,Dn x->D x
 | .br u ks,v,D,W=>∃ (b:Nat) (vk:Nat->vV) (Dk:Nat->Nat->Prop),v=brV b/\D b/\Blk W b (.cells (brC u vk).toArray 240) /\
   (∀ i,i < 16->PaAt (ks i) (vk i) (Dk i) W/\¬ Dk i b/\∀ x,Dk i x->D x)/\∀ i j,i < 16->j < 16->i≠j->∀ x,Dk i x->¬ Dk j x
theorem PaAt.keeps{F:BSet}{W W':vW}(k:jae F W W'):∀ (P:PA) (v:vV) (D:Nat->Prop),PaAt P v D W->(∀ x,D x->¬ F x)->PaAt P v D W'
 | .nil,_,_,h,_=>h
 | .no,_,_,h,_=>h
 | .leaf _ _,_,_,⟨b,h1,h2,h3⟩,hF=>⟨b,h1,h2,h3.keeps k (hF b h2)⟩
 | .ext _ n,_,_,⟨b,T,x,Dn,h1,h2,h3,h4,h5,h6⟩,hF=>⟨b,T,x,Dn,h1,h2,h3.keeps k (hF b h2),PaAt.keeps k n (.iface T x) Dn h4 (fun x e=>hF x (h6 x e)),h5,h6⟩
 | .br _ ks,_,_,⟨b,vk,Dk,h1,h2,h3,h4,h5⟩,hF=>⟨b,vk,Dk,h1,h2,h3.keeps k (hF b h2),fun i o=>⟨PaAt.keeps k (ks i) (vk i) (Dk i) (h4 i o).1 (fun x e=>hF x ((h4 i o).2.2 x e)),(h4 i o).2⟩,h5⟩
theorem PaAt.mono{D D':Nat->Prop}{W:vW}(hD:∀ x,D x->D' x):∀ {P:PA} {v:vV},PaAt P v D W->PaAt P v D' W
 | .nil,_,h=>h
 | .no,_,h=>h
 | .leaf _ _,_,⟨b,h1,h2,h3⟩=>⟨b,h1,hD b h2,h3⟩
 | .ext _ n,_,⟨b,T,x,Dn,h1,h2,h3,h4,h5,h6⟩=>⟨b,T,x,Dn,h1,hD b h2,h3,h4,h5,fun x e=>hD x (h6 x e)⟩
 | .br _ ks,_,⟨b,vk,Dk,h1,h2,h3,h4,h5⟩=>⟨b,vk,Dk,h1,hD b h2,h3,fun i o=>⟨(h4 i o).1,(h4 i o).2.1,fun x e=>hD x ((h4 i o).2.2 x e)⟩,h5⟩
theorem PaAt.form{P:PA}{v:vV}{D:Nat->Prop}{W:vW}(h:PaAt P v D W)(hn:P.isNil=false):∃ T x,v=.iface T x:=by
 cases P with
 | nil=>cases hn
 | no=>exact⟨_,_,h⟩
 | leaf q u=>obtain⟨b,h,_⟩:=h;exact⟨_,_,h⟩
 | ext q n=>obtain⟨b,T,x,e,h,_⟩:=h;exact⟨_,_,h⟩
 | br u ks=>obtain⟨b,o,A,h,_⟩:=h;exact⟨_,_,h⟩
structure PaO(P:PA)(v:Value)(D:Nat->Prop)(W:World):Prop where
 at':PaAt P v D W
 lt:∀ x,D x->x < W.heap.size
theorem PaO.keeps{F:BSet}{W W':vW}{P:PA}{v:vV}{D:Nat->Prop}(h:PaO P v D W)(k:jae F W W')(hF:∀ x,D x->¬ F x):PaO P v D W':=
 ⟨h.at'.keeps k P v D hF,fun x e=>bQ (h.lt x e) k.size⟩
theorem PaO.ext{W W':vW}{P:PA}{v:vV}{D:Nat->Prop}(h:PaO P v D W)(k:Ext W W'):PaO P v D W':=h.keeps k fun _ _ e=>e
def Grow(D:Nat->Prop)(W W':vW):Nat->Prop:=fun x=>D x\/(W.heap.size<=x/\x < W'.heap.size)
theorem jeM{D:Nat->Prop}{W W':vW}{F:BSet}(h:∀ x,D x->x < W.heap.size)(k:jae F W W'):∀ x,Grow D W W' x->x < W'.heap.size
 | x,.inl hx=>bQ (h x hx) k.size
 | x,.inr hx=>hx.2
def PaTo(D:Nat->Prop)(W:vW)(P:PA)(e:Ending)(w':vW):Prop:=∃ v,e=.returned v/\PaAt P v (Grow D W w') w'/\jae D W w'
theorem PaTo.own{D:Nat->Prop}{W:vW}{P:PA}{v:vV}{w':vW}(h:PaAt P v (Grow D W w') w')(k:jae D W w')(hl:∀ x,D x->x < W.heap.size):PaO P v (Grow D W w') w':=⟨h,jeM hl k⟩
def PaEx(D:Nat->Prop)(W:vW)(P:PA)(e:Ending)(w':vW):Prop:=∃ v,e=.returned v/\PaAt P v (Grow D W w') w'/\Ext W w'
theorem jxT(b:Nat)(w:vW):(Instr.typeAssert (jjs b) 122 231 true).run Tryz.prog w=.ok (.tuple #[.pointer (some ⟨b,0,none⟩),.bool true]) w:=vY
theorem jn5(v:vV)(h:(∃ b,v=extV b)\/(∃ b,v=brV b)\/v=noV)(w:vW):(Instr.typeAssert v 122 231 true).run Tryz.prog w=.ok (.tuple #[.pointer none,.bool false]) w:=by
 rcases h with⟨b,rfl⟩ |⟨b,rfl⟩ | rfl <;> kernel_rfl
theorem jzQ(b:Nat)(w:vW):(Instr.typeAssert (extV b) 122 234 true).run Tryz.prog w=.ok (.tuple #[.pointer (some ⟨b,0,none⟩),.bool true]) w:=vY
theorem jwI(v:vV)(h:(∃ b,v=brV b)\/v=noV)(w:vW):(Instr.typeAssert v 122 234 true).run Tryz.prog w=.ok (.tuple #[.pointer none,.bool false]) w:=by
 rcases h with⟨b,rfl⟩ | rfl <;> kernel_rfl
theorem jBd(b:Nat)(w:vW):(Instr.typeAssert (brV b) 122 237 true).run Tryz.prog w=.ok (.tuple #[.pointer (some ⟨b,0,none⟩),.bool true]) w:=vY
theorem jBe(w:vW):(Instr.typeAssert noV 122 237 true).run Tryz.prog w=.ok (.tuple #[.pointer none,.bool false]) w:=vY
end
section
section mixz
variable {P:Program} {l:List Oper} {E D:vW->vW->Prop}
def anyZ(P:Program)(ops:Array Oper)(z:Nat)(hd:List Nat)(E D:vW->vW->Prop)(Q:Act->vW->Prop):Nat->Array Bool->Act->vW->Prop
 | 0,listed,a,w=>listed.getD z true=true/\Region.ready .any ops listed=[]/\Q a w
 | fuel+1,listed,a,w=>∀ w1,(listed.getD z true=false->E w w1)->(listed.getD z true=true->w1=w) ->
  (Region.ready .any ops listed=[]->Q a w1) /\
  ∀ i∈Region.ready .any ops listed,wpOp P ops NoQ i (fun a' w'=>(listed.getD z true=false->i≠z->D w1 w'/\(i ∉ hd->E w1 w'))/\(listed.getD z true=true->w'=w1)/\anyZ P ops z hd E D Q fuel (listed.setIfInBounds i true) a' w') a w1
theorem jrw(hT:∀ x y z,E x y->E y z->E x z){ops:Array Oper}{z:Nat}{hd:List Nat}{Q:Act->vW->Prop}:∀ (fuel:Nat) (listed:Array Bool) (a:Act) (w w1:vW),listed.getD z true=false->anyZ P ops z hd E D Q fuel listed a w->E w w1->anyZ P ops z hd E D Q fuel listed a w1
 | 0,_,_,_,_,hz,h,_=>by have:=h.1;rw[hz]at this;cases this
 | _+1,_,_,_,_,hz,h,he=>fun o A H=>h o (fun e=>hT _ _ _ he (A e)) (fun e=>absurd e (by rw[hz];decide))
theorem jjy(hE:∀ w,E w w){ops:Array Oper}{z:Nat}{hd:List Nat}{Q:Act->vW->Prop}{Q':Exit->Act->vW->Prop}(hQ:∀ a w,Q a w->Q' .normal a w) :
  ∀ (fuel:Nat) (listed:Array Bool) (a:Act) (w:vW),anyZ P ops z hd E D Q fuel listed a w->wpAny P .any ops Q' fuel listed a w
 | 0,_,_,w,h=>⟨h.2.1,hQ _ _ h.2.2⟩
 | fuel+1,_,_,w,h=>let ⟨h1,h2⟩:=h w (fun _=>hE w) (fun _=>rfl)
  ⟨fun e=>hQ _ _ (h1 e),fun i o=>jh9 (fun A w' ⟨_,_,H⟩=>jjy hE hQ fuel _ A w' H) (h2 i o)⟩
def jqx(ops:Array Oper)(z i:Nat):Bool:=match ops[z]? with | some o=>o.after.toList.any fun e=>Region.binds .any e && e.on == i | none=>false
theorem ju8{ops:Array Oper}{z i:Nat}{listed:Array Bool}(he:jqx ops z i=true)(hi:i∈Region.ready .any ops listed):z ∉ Region.ready .any ops listed:=by
 intro O;unfold jqx at he
 obtain⟨Q,X,E,o⟩:=mem_ready.1 O
 rw[E]at he
 obtain⟨e,H,J⟩:=fP.1 he
 rw[cY,beq_iff_eq]at J;have A:=o e (by simpa using H) J.1;have K:=(mem_ready.1 hi).1;rw[J.2]at A;rcases fQ i listed.size with h' | h'
 ·simp[h']at K A;rw[K]at A;cases A
 ·simp[gP h']at A
theorem jqh(hE:∀ w,E w w)(hT:∀ x y z,E x y->E y z->E x z)(hD:∀ x y z,D x y->D y z->D x z)(hED:∀ x y,E x y->D x y){ops:Array Oper}{z:Nat}{hd:List Nat}{Q:Act->vW->Prop}{i:Nat}{oi:Oper}{v:vV}(hiz:i≠z)(he0:jqx ops z i=true)(hi:ops[i]?=some oi)(hsel:∀ (j:Nat) (o:Oper) cs b,ops[j]?=some o->o.op≠.select cs b) :
  ∀ (J:Nat) (A:Array Bool) (a:Act) (w:vW),A.getD z true=false ->
   (∀ j oj,ops[j]?=some oj->j≠i->A.getD j true=false->(∀ e∈oj.after,Region.binds .any e=true->e.on≠i)->oi.apart ops oj=true) ->
   i∈Region.ready .any ops A->jcE P ops E D w oi v a ->
   anyZ P ops z hd E D Q J (A.setIfInBounds i true) (a.put oi.dst v) w->anyZ P ops z hd E D Q (J+1) A a w:=by
 intro J;induction J with
 | zero =>
  intro A a w hz _ hr hy H
  have:=H.1
  rw[getD_set_ne true hiz,hz]at this;cases this
 | succ J ih =>
  intro A a w hz K hr hy H w1 a8 _;have he:=a8 hz;have a0:(A.setIfInBounds i true).getD z true=false:=by rw[getD_set_ne true hiz,hz]
  refine⟨fun h=>(by rw[h]at hr;cases hr),fun j hj=>?_⟩
  by_cases hji:j=i
  ·subst hji
   exact hy.wpOp hi (hED _ _ he) hE (fun w' O=>⟨fun _ _=>⟨hED _ _ O,fun _=>O⟩,fun e=>absurd e (by rw[hz];decide),jrw hT _ _ _ _ _ a0 H (hT _ _ _ he O)⟩)
  ·have a6:j≠z:=fun e=>ju8 he0 hr (e ▸ hj)
   have O:=(H w1 (fun _=>he) (fun e=>by rw[a0]at e;cases e)).2 j (ready_mono hj hji)
   obtain⟨Z,oj,a3,a4⟩:=mem_ready.1 hj
   have a5:∀ e∈oj.after,Region.binds .any e=true->e.on≠i:=fun e he hb a9=>by
    have O:=a4 e he hb;have h0:=(mem_ready.1 hr).1;rw[a9]at O;rcases fQ i A.size with h' | h'
    ·simp[h']at h0 O;rw[h0]at O;cases O
    ·simp[gP h']at O
   have h2:=jfy (v:=v) (Y:=fun a'=>execOp a'.eval oi=execOp a.eval oi/\Region.wanted oi (yielded ops a'.tmps)=Region.wanted oi (yielded ops a.tmps)) a3 (K j oj a3 hji Z a5) (fun cs b=>hsel i oi cs b hi) (fun cs b=>hsel j oj cs b a3)
    (fun a1 a2 h e1 e2=>⟨e1.trans h.1,e2.trans h.2⟩) ⟨rfl,rfl⟩ O
   have X:∀ k ok,ops[k]?=some ok->k≠i->(A.setIfInBounds j true).getD k true=false ->
     (∀ e∈ok.after,Region.binds .any e=true->e.on≠i)->oi.apart ops ok=true:=fun k ok hk b0 a7 b1=>by
    refine K k ok hk b0 ?_ b1
    by_cases hjk:j=k
    ·subst hjk;exact Z
    ·rw[getD_set_ne true hjk]at a7;exact a7
   refine wpOp_mono (fun a' w' h3=>?_) h2
   obtain⟨⟨e1,e2⟩,h4,_,h5⟩:=h3
   have h4:=h4 a0 a6
   refine⟨fun _ _=>h4,fun e=>absurd e (by rw[hz];decide),?_⟩
   have b2:jcE P ops E D w' oi v a':=(hy.of_same e1 e2).st hD (hD _ _ _ (hED _ _ he) h4.1);refine ih (A.setIfInBounds j true) a' w' (by rw[getD_set_ne true a6,hz]) X (ready_mono hr (Ne.symm hji)) b2 ?_;rw[gX _ _ hji];exact h5
def jg1(P:Program)(ops:Array Oper)(o:Oper)(v:vV)(a:Act):Prop:=
 (Region.wanted o (yielded ops a.tmps)=true/\∀ w1,joi P (fun x y=>y=x) w1 v ((execOp a.eval o).run P w1))\/(Region.wanted o (yielded ops a.tmps)=false/\v=undef)
theorem jg1.wpOp{ops:Array Oper}{i:Nat}{o:Oper}{v:vV}{a:Act}(hi:ops[i]?=some o)(hy:jg1 P ops o v a){K:Act->vW->Prop}{w1:vW}
  (h:K (a.put o.dst v) w1):wpOp P ops NoQ i K a w1:=by
 have A:jbO P ops (fun x y=>y=x) w1 o v a:=by
  rcases hy with⟨h1,h2⟩ | h1
  ·exact .inl ⟨h1,fun w1 _=>h2 w1⟩
  ·exact .inr h1
 exact A.wpOp hi (Eq.refl w1) (fun _=>rfl) (fun w' e=>by have e:w'=w1:=e;rw[e];exact h)
theorem juy(hE:∀ w,E w w)(hT:∀ x y z,E x y->E y z->E x z)(hED:∀ x y,E x y->D x y){ops:Array Oper}{z:Nat}{hd:List Nat}{Q:Act->vW->Prop}{i:Nat}{oi:Oper}{v:vV}(hiz:i≠z)(hi:ops[i]?=some oi)(hsel:∀ (j:Nat) (o:Oper) cs b,ops[j]?=some o->o.op≠.select cs b) :
  ∀ (J:Nat) (A:Array Bool) (a:Act) (w:vW),
   (∀ j oj,ops[j]?=some oj->j≠i->A.getD j true=false->(∀ e∈oj.after,Region.binds .any e=true->e.on≠i)->oi.apart ops oj=true) ->
   i∈Region.ready .any ops A->jg1 P ops oi v a ->
   anyZ P ops z hd E D Q J (A.setIfInBounds i true) (a.put oi.dst v) w->anyZ P ops z hd E D Q (J+1) A a w:=by
 intro J;have a3:∀ (J:Nat) (A:Array Bool) (a:Act) (w w1:vW),(A.getD z true=false->E w w1)->(A.getD z true=true->w1=w) ->
   anyZ P ops z hd E D Q J (A.setIfInBounds i true) (a.put oi.dst v) w->anyZ P ops z hd E D Q J (A.setIfInBounds i true) (a.put oi.dst v) w1:=by
  intro J A a w w1 O h2 H;cases hz:A.getD z true with
  | true=>rw[h2 hz];exact H
  | false=>exact jrw hT _ _ _ _ _ (by rw[getD_set_ne true hiz,hz]) H (O hz)
 induction J with
 | zero =>
  intro A a w K hr hy H w1 X Z;have hz:A.getD z true=true:=by have:=H.1;rwa [getD_set_ne true hiz]at this
  refine⟨fun h=>(by rw[h]at hr;cases hr),fun j hj=>?_⟩
  by_cases hji:j=i
  ·subst hji
   exact hy.wpOp hi ⟨fun _ _=>⟨hED _ _ (hE w1),fun _=>hE w1⟩,fun _=>rfl,a3 0 A a w w1 X Z H⟩
  ·have:=ready_mono hj hji
   rw[H.2.1]at this;cases this
 | succ J ih =>
  intro A a w K hr hy H w1 X Z
  refine⟨fun h=>(by rw[h]at hr;cases hr),fun j hj=>?_⟩
  by_cases hji:j=i
  ·subst hji
   exact hy.wpOp hi ⟨fun _ _=>⟨hED _ _ (hE w1),fun _=>hE w1⟩,fun _=>rfl,a3 _ A a w w1 X Z H⟩
  ·have a5:(A.setIfInBounds i true).getD z true=A.getD z true:=getD_set_ne true hiz
   have O:=(H w1 (fun e=>X (a5 ▸ e)) (fun e=>Z (a5 ▸ e))).2 j (ready_mono hj hji)
   obtain⟨a4,oj,a6,a7⟩:=mem_ready.1 hj
   have a8:∀ e∈oj.after,Region.binds .any e=true->e.on≠i:=fun e he hb b1=>by
    have O:=a7 e he hb;have h0:=(mem_ready.1 hr).1;rw[b1]at O;rcases fQ i A.size with h' | h'
    ·simp[h']at h0 O;rw[h0]at O;cases O
    ·simp[gP h']at O
   have h2:=jfy (v:=v) (Y:=fun a'=>execOp a'.eval oi=execOp a.eval oi/\Region.wanted oi (yielded ops a'.tmps)=Region.wanted oi (yielded ops a.tmps)) a6 (K j oj a6 hji a4 a8) (fun cs b=>hsel i oi cs b hi) (fun cs b=>hsel j oj cs b a6)
    (fun a1 a2 h e1 e2=>⟨e1.trans h.1,e2.trans h.2⟩) ⟨rfl,rfl⟩ O
   have a0:∀ k ok,ops[k]?=some ok->k≠i->(A.setIfInBounds j true).getD k true=false ->
     (∀ e∈ok.after,Region.binds .any e=true->e.on≠i)->oi.apart ops ok=true:=fun k ok hk b2 a9 b3=>by
    refine K k ok hk b2 ?_ b3
    by_cases hjk:j=k
    ·subst hjk;exact a4
    ·rw[getD_set_ne true hjk]at a9;exact a9
   refine wpOp_mono (fun a' w' h3=>?_) h2
   obtain⟨⟨e1,e2⟩,h4,b0,h5⟩:=h3
   rw[a5]at h4 b0
   refine⟨h4,b0,?_⟩
   have b4:jg1 P ops oi v a':=by unfold jg1 at *;rw[e1,e2];exact hy
   refine ih (A.setIfInBounds j true) a' w' a0 (ready_mono hr (Ne.symm hji)) b4 ?_;rw[gX _ _ hji];exact h5
def MixZ(P:Program)(l:List Oper)(z:Nat)(hd:List Nat)(E D:vW->vW->Prop)(Q:Act->vW->Prop):List Nat->List Nat->Act->vW->Prop
 | [],done,a,w=>Region.ready .any l.toArray (jbj l done)=[z]/\(jbj l done).getD z true=false/\(jbj l (z :: done)).getD z true=true/\Region.ready .any l.toArray (jbj l (z :: done))=[]/\∀ w1,E w w1->wpOp P l.toArray NoQ z Q a w1
 | k :: ord,done,a,w=>(jbj l done).getD z true=false/\k≠z /\
  ((k∈Region.ready .any l.toArray (jbj l done)/\Region.free .any l.toArray (jbj l done) k=true/\∃ o v,l[k]?=some o/\((jqx l.toArray z k=true/\jcE P l.toArray E D w o v a)\/jg1 P l.toArray o v a)/\MixZ P l z hd E D Q ord (k :: done) (a.put o.dst v) w) \/
  (Region.ready .any l.toArray (jbj l done)=[k]/\k∈hd/\∀ w1,E w w1->wpOp P l.toArray NoQ k (fun a' w'=>D w1 w'/\MixZ P l z hd E D Q ord (k :: done) a' w') a w1))
theorem jeG(hE:∀ w,E w w)(hT:∀ x y z,E x y->E y z->E x z)(hD:∀ x y z,D x y->D y z->D x z)(hED:∀ x y,E x y->D x y)(hs:Region.noSelect l.toArray=true){z:Nat}{hd:List Nat}{Q:Act->vW->Prop}:∀ (ord:List Nat) (done:List Nat) (a:Act) (w:vW),
  MixZ P l z hd E D Q ord done a w->anyZ P l.toArray z hd E D Q (ord.length+1) (jbj l done) a w
 | [],done,a,w,⟨h1,hz,hz2,O,h3⟩=>fun w1 H _=>by
  refine⟨fun J=>(by rw[h1]at J;cases J),fun i K=>?_⟩
  rw[h1]at K;obtain rfl:i=z:=by simpa using K
  exact wpOp_mono (fun X w' h=>⟨fun _ e=>absurd rfl e,fun e=>absurd e (by rw[hz];decide),hz2,O,h⟩) (h3 w1 (H hz))
 | k :: ord,done,a,w,⟨hz,hkz,h⟩=>by
  rcases h with⟨hr,hf,o,v,ho,hy,h⟩ |⟨hr,hkd,h⟩
  ·have A:l.toArray[k]?=some o:=by simpa using ho
   rcases hy with⟨H,hy⟩ | hy
   ·exact jqh hE hT hD hED hkz H A (iK hs) (ord.length+1) (jbj l done) a w hz (iU A hf) hr hy (jeG hE hT hD hED hs ord _ _ _ h)
   ·exact juy hE hT hED hkz A (iK hs) (ord.length+1) (jbj l done) a w (iU A hf) hr hy (jeG hE hT hD hED hs ord _ _ _ h)
  ·intro w1 H _
   refine⟨fun J=>(by rw[hr]at J;cases J),fun i K=>?_⟩
   rw[hr]at K;obtain rfl:i=k:=by simpa using K
   exact wpOp_mono (fun X w' O=>⟨fun _ _=>⟨O.1,fun Z=>absurd hkd Z⟩,fun e=>absurd e (by rw[hz];decide),jeG hE hT hD hED hs ord _ _ _ O.2⟩) (h w1 (H hz))
theorem jdf(ord:List Nat)(z:Nat)(hd:List Nat)(E D:vW->vW->Prop)(hE:∀ w,E w w)(hT:∀ x y z,E x y->E y z->E x z)(hD:∀ x y z,D x y->D y z->D x z)(hED:∀ x y,E x y->D x y){id:Nat}{Q:Exit->Act->vW->Prop}{a:Act}{w:vW}
  (hm:P.follows .mixedOrders=true) (hs:Region.noSelect l.toArray=true) (hl:ord.length+1=l.toArray.size)
  (h:MixZ P l z hd E D (fun a w=>Q .normal a w) ord [] a w.drew):(Code.region id l.toArray true).wp P Q a w:=by
 refine wp_region_any hm ?_;rw[<-hl]
 have:=jeG hE hT hD hED hs ord _ _ _ h
 unfold jbj at this;rw[hl]at this ⊢;exact jjy hE (fun _ _ h=>h) _ _ _ _ this
variable {Q:Act->vW->Prop} {ord done hd:List Nat} {a:Act} {w:vW} {k z:Nat} {o:Oper}
def jqF(l:List Oper)(z:Nat)(done:List Nat)(k:Nat):Bool:=(Region.ready .any l.toArray (jbj l done)).contains k && Region.free .any l.toArray (jbj l done) k && (jbj l done).getD z true == false && k != z
theorem jhj(h:jqF l z done k=true):(k∈Region.ready .any l.toArray (jbj l done)/\Region.free .any l.toArray (jbj l done) k=true)/\(jbj l done).getD z true=false/\k≠z:=by
 simp only[jqF,cY,dC,beq_iff_eq,bne_iff_ne]at h
 exact⟨h.1.1,h.1.2,h.2⟩
theorem js2(o:Oper)(ho:l[k]?=some o)(hk:jqF l z done k=true)(hw:Region.wanted o (yielded l.toArray a.tmps)=true)(hq:jjW o.op=true)
  (h:∀ K:Act->Prop,(∀ a',MixZ P l z hd E D Q ord (k :: done) a' w->K a')->o.quiet P a (fun _=>True) K):MixZ P l z hd E D Q (k :: ord) done a w:=by
 obtain⟨⟨A,H⟩,J,O⟩:=jhj hk
 obtain⟨v,X,Z⟩:=h _ (fun _ h=>h)
 refine⟨J,O,.inl ⟨A,H,o,v,ho,.inr (.inl ⟨hw,fun w1=>?_⟩),Z⟩⟩
 have e:=X w1 trivial;unfold Oper.quietAt at e;have h4:=fun f args w'=>jk8 (ρ:=a.eval) hq P w1 w' f args;generalize (execOp a.eval o).run P w1=r at *;cases r with
 | ok n w'=>cases n <;> simp only[Oper.quietUpon]at e <;> first | exact e | exact absurd rfl (h4 _ _ _)
 | halt x w'=>simp only[Oper.quietUpon]at e
theorem jcM(o:Oper)(v:vV)(ho:l[k]?=some o)(hk:jqF l z done k=true)(hw:Region.wanted o (yielded l.toArray a.tmps)=true)
  (hv:∀ w1,(execOp a.eval o).run P w1=.ok (.value v) w1) (h:MixZ P l z hd E D Q ord (k :: done) (a.put o.dst v) w):MixZ P l z hd E D Q (k :: ord) done a w:=by
 obtain⟨⟨e,A⟩,H,J⟩:=jhj hk
 exact⟨H,J,.inl ⟨e,A,o,v,ho,.inr (.inl ⟨hw,fun w1=>by rw[hv w1];exact⟨rfl,rfl⟩⟩),h⟩⟩
theorem jvE(o:Oper)(v:vV)(ho:l[k]?=some o)(hk:jqF l z done k=true)(he:jqx l.toArray z k=true)(hw:Region.wanted o (yielded l.toArray a.tmps)=true)
  (hv:∀ w1,D w w1->(execOp a.eval o).run P w1=.ok (.value v) w1) (h:MixZ P l z hd E D Q ord (k :: done) (a.put o.dst v) w):MixZ P l z hd E D Q (k :: ord) done a w:=by
 obtain⟨⟨e,A⟩,H,J⟩:=jhj hk
 exact⟨H,J,.inl ⟨e,A,o,v,ho,.inl ⟨he,.inl ⟨hw,fun w1 K=>by rw[hv w1 K];exact⟨rfl,rfl⟩⟩⟩,h⟩⟩
theorem jgF(p:Addr)(v:vV){t:TypeId}{x:Operand}{d:Option Tmp}{ty:TypeId}{pos:String}{af:Array Edge}{g:Option (Nat × Bool)}(ho:l[k]?=some ⟨d,.load t x,ty,pos,af,g⟩)(hk:jqF l z done k=true)(he:jqx l.toArray z k=true)
  (hw:Region.wanted ⟨d,.load t x,ty,pos,af,g⟩ (yielded l.toArray a.tmps)=true) (hx:a.eval x=.pointer (some p))
  (hv:∀ w1,D w w1->(Instr.loadAt t (.pointer (some p))).run P w1=.ok v w1) (h:MixZ P l z hd E D Q ord (k :: done) (a.put d v) w):MixZ P l z hd E D Q (k :: ord) done a w:=by
 refine jvE _ v ho hk he hw (fun w1 e=>?_) h
 have:=hv w1 e
 simp only[execOp,hx,cA,this,Result.andThen,cO]
def jwA(l:List Oper)(z:Nat)(hd done:List Nat)(k:Nat):Bool:=Region.ready .any l.toArray (jbj l done) == [k] && (jbj l done).getD z true == false && k != z && hd.contains k
theorem jgD(o:Oper)(ho:l[k]?=some o)(hk:jwA l z hd done k=true)(hw:Region.wanted o (yielded l.toArray a.tmps)=true)
  (h:∀ w1,E w w1->∀ K:Act->vW->Prop,(∀ a' w',D w1 w'->MixZ P l z hd E D Q ord (k :: done) a' w'->K a' w')->o.wp P a w1 K NoQ):MixZ P l z hd E D Q (k :: ord) done a w:=by
 simp only[jwA,cY,beq_iff_eq,bne_iff_ne,dC]at hk
 refine⟨hk.1.1.2,hk.1.2,.inr ⟨hk.1.1.1,hk.2,fun w1 A=>?_⟩⟩
 unfold wpOp;have e:l.toArray[k]?=some o:=by simpa using ho
 simp only[e,hw,if_true];exact .inl (h w1 A _ (fun _ _ H J=>⟨H,J⟩))
def jz1(l:List Oper)(z:Nat)(done:List Nat):Bool:=Region.ready .any l.toArray (jbj l done) == [z] && (jbj l done).getD z true == false && (jbj l (z :: done)).getD z true == true && (Region.ready .any l.toArray (jbj l (z :: done))).isEmpty
theorem jgE(o:Oper)(ho:l[z]?=some o)(hk:jz1 l z done=true)(hw:Region.wanted o (yielded l.toArray a.tmps)=true)
  (h:∀ w1,E w w1->∀ K:Act->vW->Prop,(∀ a' w',Q a' w'->K a' w')->o.wp P a w1 K NoQ):MixZ P l z hd E D Q [] done a w:=by
 simp only[jz1,cY,beq_iff_eq,List.isEmpty_iff]at hk
 refine⟨hk.1.1.1,hk.1.1.2,hk.1.2,hk.2,fun w1 A=>?_⟩
 unfold wpOp;have e:l.toArray[z]?=some o:=by simpa using ho
 simp only[e,hw,if_true];exact .inl (h w1 A _ (fun _ _ h=>h))
end mixz
end
section
attribute [local go_sem] Oper.semAt_some
theorem jc5{p:vB}(h:p.size≠0):p.toList.isEmpty=false:=by
 rw[gD];intro e;rw[List.isEmpty_iff,bR]at e;exact h (by rw[<-jaS,e];rfl)
theorem PaEx.mk1{D:Nat->Prop}{W W':vW}{P:PA}{v:vV}(h:PaAt P v (Grow D W W') W')(e:Ext W W'):PaEx D W P (.returned v) W':=⟨v,rfl,h,e⟩
theorem jAg(W:vW)(D:Nat->Prop)(P:PA)(v:vV)(h:PaAt P v D W):vQ 235 #[.string ⟨#[]⟩,v] W (PaEx D W P):=by
 have H:=Hd h;clear h;unfold vQ;go_in;have e:(⟨#[]⟩:vB).toList.isEmpty=true:=by rw[bR];rfl
 go_wp2_with fail
 go_ret;exact PaEx.mk1 (H.o.mono (fun x A=>.inl A)) (ExtR W)
theorem jya(W:vW)(D:Nat->Prop)(a q u:vB)(b:Nat)(hB:Blk W b (.cells #[.string q,.string u] 233))(h0:a.size≠0)(ha:a.size<=1000000)(hq:q.size<=1000000) :
  vQ 235 #[.string a,jjs b] W (PaEx D W (.leaf (a++q) u)):=by
 have a0:=jc5 h0;have X:=hB.cell (i:=0) (v:=.string q) vF;have Z:=hB.cell (i:=1) (v:=.string u) vF;have Q0:=Hd X;have Q1:=Hd Z;have hT:=jxT b;unfold jjs at hT ⊢;clear hB h0 X Z;go_enter Tryz.func235,Tryz.ntmps235;go_wp2_with fail
 refine jag [0,1,2,3,4,5,6,7,8,9,10,11,12,13] (Ext) ExtR ExtT vY vY vY ?_;iterate 2 refine vK ?_
 refine jcv _ ((.pointer (some ⟨b,0,none⟩))) rfl vY rfl (fun w1 _=>by kernel_rfl) ?_;refine vS ?_
 refine vK ?_
 refine qKL ⟨b,0,none⟩ _ rfl (fun w1 O=>jaE (fun w=>by kernel_rfl) (jaa Q0.o ((jai _).trans O))) ?_;refine vS ?_;iterate 2 refine vK ?_
 refine jcv _ ((.pointer (some ⟨b,0,none⟩))) rfl vY rfl (fun w1 _=>by kernel_rfl) ?_;refine vS ?_
 refine vK ?_
 refine qKL ⟨b,1,none⟩ _ rfl (fun w1 O=>jaE (fun w=>by kernel_rfl) (jaa Q1.o ((jai _).trans O))) ?_;refine vS ?_
 refine vK ?_
 refine jeu _ rfl vY rfl (fun A hb K hK=>?_);refine jcd (v:=.pointer (some ⟨A.heap.size,0,none⟩)) (w':=A.alloc (.cells #[.string (a++q),.string u] 233)) vY (hK _ _ ((ExtR A).alloc _) ?_);clear hK K;have hN:=Blk.new A (.cells #[.string (a++q),.string u] 233);refine vS ?_;iterate 2 refine vK ?_
 refine qKE (fun w5 Q=>?_);have H:Ext W w5:=(((jai W).trans hb).trans ((ExtR A).alloc _)).trans Q;have e:=hN.keeps Q (fun h=>h);have E:=hb.size;have E:W.heap.size<=A.heap.size:=E;have J:=e.lt;have HX:=Hd (bB H (bB e (bB E J)));clear Q hN hb H e E J;go_wp2_with fail
 go_ret
 obtain⟨H,e,E,J⟩:=HX.o
 exact PaEx.mk1 ⟨_,rfl,.inr ⟨E,J⟩,e⟩ H
theorem jAf(W:vW)(D:Nat->Prop)(a q:vB)(n:PA)(T:TypeId)(x:vV)(Dn:Nat->Prop)(b:Nat)(hB:Blk W b (.cells #[.string q,.iface T x] 236))(Q:PaAt n (.iface T x) Dn W)(J:∀ x,Dn x->D x/\x < W.heap.size)(h0:a.size≠0)(ha:a.size<=1000000)(hq:q.size<=1000000) :
  vQ 235 #[.string a,extV b] W (PaEx D W (.ext (a++q) n)):=by
 have a0:=jc5 h0;have q0:=hB.cell (i:=0) (v:=.string q) vF;have q1:=hB.cell (i:=1) (v:=.iface T x) vF;have Q0:=Hd q0;have Q1:=Hd q1;have HV:=Hd (bB Q J);have hT:=jzQ b;have Z:=jn5 (extV b) (.inl ⟨b,rfl⟩);unfold extV at hT Z ⊢;clear hB h0 q0 q1 Q J;go_enter Tryz.func235,Tryz.ntmps235;go_wp2_with fail
 refine jag [0,1,2,3,4,5,6,7,8,9,10,11,12,13] (Ext) ExtR ExtT vY vY vY ?_;iterate 2 refine vK ?_
 refine jcv _ ((.pointer (some ⟨b,0,none⟩))) rfl vY rfl (fun w1 _=>by kernel_rfl) ?_;refine vS ?_
 refine vK ?_
 refine qKL ⟨b,0,none⟩ _ rfl (fun w1 h1=>jaE (fun w=>by kernel_rfl) (jaa Q0.o ((jai _).trans h1))) ?_;refine vS ?_;iterate 2 refine vK ?_
 refine jcv _ ((.pointer (some ⟨b,0,none⟩))) rfl vY rfl (fun w1 _=>by kernel_rfl) ?_;refine vS ?_
 refine vK ?_
 refine qKL ⟨b,1,none⟩ _ rfl (fun w1 h1=>jaE (fun w=>by kernel_rfl) (jaa Q1.o ((jai _).trans h1))) ?_;refine vS ?_
 refine vK ?_
 refine jeu _ rfl vY rfl (fun E hb K hK=>?_);refine jcd (v:=.pointer (some ⟨E.heap.size,0,none⟩)) (w':=E.alloc (.cells #[.string (a++q),.iface T x] 236)) vY (hK _ _ ((ExtR E).alloc _) ?_);clear hK K;have hN:=Blk.new E (.cells #[.string (a++q),.iface T x] 236);refine vS ?_;iterate 2 refine vK ?_
 refine qKE (fun w5 he=>?_);have O:Ext W w5:=(((jai W).trans hb).trans ((ExtR E).alloc _)).trans he;have A:=hN.keeps he (fun h=>h);have H:=hb.size;have H:W.heap.size<=E.heap.size:=H;have X:=A.lt;have HX:=Hd (bB O (bB A (bB H X)));clear he hN hb O A H X;go_wp2_with fail
 go_ret
 obtain⟨O,A,H,X⟩:=HX.o
 obtain⟨Q,J⟩:=HV.o
 exact PaEx.mk1 ⟨_,T,x,Dn,rfl,.inr ⟨H,X⟩,A,Q.keeps O n (.iface T x) Dn (fun _ _ e=>e),fun e=>by have:=(J _ e).2;omega,fun x hx=>.inl (J x hx).1⟩ O
theorem jBA(W:vW)(D:Nat->Prop)(a:vB)(u:vB)(ks:Nat->PA)(b:Nat)(h:PaO (.br u ks) (brV b) D W)(h0:a.size≠0) :
  vQ 235 #[.string a,brV b] W (PaEx D W (.ext a (.br u ks))):=by
 have O:=jc5 h0;have H:=Hd h;have Q:=jBd b;have A:=jn5 (brV b) (.inr (.inl ⟨b,rfl⟩));have E:=jwI (brV b) (.inl ⟨b,rfl⟩);unfold brV at Q A E ⊢;clear h h0;go_enter Tryz.func235,Tryz.ntmps235;go_wp2_with fail
 go_ret;have J:Ext W (W.alloc (.cells #[.string a,brV b] 236)):=(ExtR W).alloc _;have K:=Blk.new W (.cells #[.string a,brV b] 236);exact PaEx.mk1 ⟨_,_,_,D,rfl,.inr ⟨bL _,K.lt⟩,K,H.o.at'.keeps J _ _ _ (fun _ _ e=>e),fun e=>by have:=H.o.lt _ e;omega,fun x X=>.inl X⟩ J
theorem jBB(W:vW)(D:Nat->Prop)(a:vB)(h0:a.size≠0):vQ 235 #[.string a,noV] W (PaEx D W .no):=by
 have E:=jc5 h0;have e:=jn5 noV (.inr (.inr rfl));have o:=jwI noV (.inr rfl);have A:=jBe;unfold noV at e o A ⊢;clear h0;unfold vQ;go_in;go_wp2_with fail
 go_ret;exact PaEx.mk1 rfl (ExtR W)
theorem pj_c(W:vW)(D:Nat->Prop)(a:vB)(P:PA)(v:vV)(h:PaO P v D W)(hn:P.isNil=false)(ha:a.size<=1000000)(hd:Dp P 1000000) :
  vQ 235 #[.string a,v] W (PaEx D W (jcj a P)):=by
 unfold jcj
 by_cases h0:a.size=0
 ·rw[if_pos h0,jby h0];exact jAg W D P v h.at'
 rw[if_neg h0];cases P with
 | nil=>cases hn
 | no=>obtain rfl:v=noV:=h.at';exact jBB W D a h0
 | leaf q u =>
  obtain⟨b,rfl,o,e⟩:=h.at'
  exact jya W D a q u b e h0 ha hd
 | ext q n =>
  obtain⟨b,T,x,J,rfl,o,e,A,K,E⟩:=h.at'
  exact jAf W D a q n T x J b e A (fun x H=>⟨E x H,h.lt x (E x H)⟩) h0 ha hd.1
 | br u ks =>
  obtain⟨b,O,Q,rfl,o,e,A,K⟩:=h.at'
  exact jBA W D a u ks b h h0
end
section
attribute [local go_sem] Oper.semAt_some
theorem jdG{a:vB}{P:PA}(h:P.isNil=false):(jcj a P).isNil=false:=by
 unfold jcj;split
 ·exact h
 ·cases P <;> rfl
theorem jiZ:∀ (P:PA) (p u:vB),(putP P p u).isNil=false
 | .nil,_,_=>rfl
 | .no,_,_=>rfl
 | .leaf q v,p,u=>by
  unfold putP;split
  ·rfl
  ·refine jdG ?_
   rw[jcW];split
   ·rw[jcW];split <;> rfl
   ·rw[jcW];split <;> rfl
 | .ext q n,p,u=>by
  unfold putP;split
  ·exact jdG (jiZ n _ _)
  ·refine jdG ?_
   rw[jcW];split <;> rfl
 | .br v ks,p,u=>by
  unfold putP;split <;> rfl
theorem jcN{P:Program}{a:Act}{w:vW}{d:Option Tmp}{x:Operand}{name:String}{args:Array Operand}{ats:Array TypeId}{ty:TypeId}{pos:String}{af:Array Edge}{g:Option (Nat × Bool)}{T:TypeId}{v r:vV}{f:FuncId}{vs:Array vV}(hx:a.eval x=.iface T v)
  (hm:(Go.method (P.types.size+Made.depth) T v name).run P w=.ok (f,r) w) (eg:∀ args w,(callFunc f args).run P w=.ok (.enter f args) w) (hv:args.map a.eval=vs) :
  (execOp a.eval ⟨d,.call { callee:=.invoke x name,args:=args,argTypes:=ats },ty,pos,af,g⟩).run P w=.ok (.enter f (#[r]++vs)) w:=by
 subst hv;have e:(#[Value.iface T v]++args.map a.eval)[0]?=some (.iface T v):=by simp[Array.getElem?_append]
 have o:(#[Value.iface T v]++args.map a.eval).extract 1 (#[Value.iface T v]++args.map a.eval).size=args.map a.eval:=by simp
 simp only[execOp,resolve,hx,cA,cO,Result.andThen,invoke,e,o,callMethod,run_program,hm,eg]
def jkX:PA->FuncId
 | .leaf _ _=>233
 | .ext _ _=>239
 | .br _ _=>234
 | _=>250
def jfo:PA->FuncId
 | .leaf _ _=>230
 | .ext _ _=>236
 | .br _ _=>243
 | _=>247
def jgd:PA->FuncId
 | .leaf _ _=>231
 | .ext _ _=>237
 | .br _ _=>244
 | _=>248
def jmG:PA->FuncId
 | .leaf _ _=>232
 | .ext _ _=>238
 | .br _ _=>245
 | _=>249
set_option maxRecDepth 100000
theorem jiz(P:PA):∀ args w,(callFunc (jkX P) args).run Tryz.prog w=.ok (.enter (jkX P) args) w:=by intro args w;cases P <;> kernel_rfl
theorem jfG(P:PA):∀ args w,(callFunc (jfo P) args).run Tryz.prog w=.ok (.enter (jfo P) args) w:=by intro args w;cases P <;> kernel_rfl
theorem jeo(P:PA):∀ args w,(callFunc (jgd P) args).run Tryz.prog w=.ok (.enter (jgd P) args) w:=by intro args w;cases P <;> kernel_rfl
theorem jqy(P:PA):∀ args w,(callFunc (jmG P) args).run Tryz.prog w=.ok (.enter (jmG P) args) w:=by intro args w;cases P <;> kernel_rfl
structure jy6(P:PA)(T:TypeId)(x:Value):Prop where
 put:∀ w,(Go.method (Tryz.prog.types.size+Made.depth) T x "guilloche/trie.put").run Tryz.prog w=.ok (jkX P,x) w
 drop:∀ w,(Go.method (Tryz.prog.types.size+Made.depth) T x "guilloche/trie.drop").run Tryz.prog w=.ok (jfo P,x) w
 ent:∀ w,(Go.method (Tryz.prog.types.size+Made.depth) T x "guilloche/trie.entries").run Tryz.prog w=.ok (jgd P,x) w
 form:∀ w,(Go.method (Tryz.prog.types.size+Made.depth) T x "guilloche/trie.form").run Tryz.prog w=.ok (jmG P,x) w
theorem PaAt.meth{P:PA}{T:TypeId}{x:vV}{D:Nat->Prop}{W:vW}(h:PaAt P (.iface T x) D W):jy6 P T x:=by
 cases P with
 | nil=>cases h
 | no =>
  have h:Value.iface T x=noV:=h;unfold noV at h;injection h with h1 h2;subst h1 h2
  exact⟨fun w=>by kernel_rfl,fun w=>by kernel_rfl,fun w=>by kernel_rfl,fun w=>by kernel_rfl⟩
 | leaf q u =>
  obtain⟨b,h,_⟩:=h
  unfold jjs at h;injection h with h1 h2;subst h1 h2
  exact⟨fun w=>by kernel_rfl,fun w=>by kernel_rfl,fun w=>by kernel_rfl,fun w=>by kernel_rfl⟩
 | ext q n =>
  obtain⟨b,_,_,_,h,_⟩:=h
  unfold extV at h;injection h with h1 h2;subst h1 h2
  exact⟨fun w=>by kernel_rfl,fun w=>by kernel_rfl,fun w=>by kernel_rfl,fun w=>by kernel_rfl⟩
 | br u ks =>
  obtain⟨b,_,_,h,_⟩:=h
  unfold brV at h;injection h with h1 h2;subst h1 h2
  exact⟨fun w=>by kernel_rfl,fun w=>by kernel_rfl,fun w=>by kernel_rfl,fun w=>by kernel_rfl⟩
theorem jx4:jy6 .no 242 (.agg #[]):=PaAt.meth (D:=fun _=>True) (W:={ (default:vW)with heap:=#[] }) rfl
def PutC(P:PA):Prop:=∀ (W:vW) (T:TypeId) (x:vV) (D:Nat->Prop) (p u:vB),PaO P (.iface T x) D W->p.size<=900000->jaB p=true->Dp P 900000 ->
 vQ (jkX P) #[x,.string p,.string u] W (PaTo D W (putP P p u))
theorem PaTo.mk1{D:Nat->Prop}{W W':vW}{P:PA}{v:vV}(h:PaAt P v (Grow D W W') W')(e:jae D W W'):PaTo D W P (.returned v) W':=⟨v,rfl,h,e⟩
theorem jnW(T:TypeId)(x:vV)(w:vW):(binOp .eql 122 (.iface T x) .nilIface).run Tryz.prog w=.ok (.bool false) w:=vY
theorem jzO(w:vW):(binOp .eql 122 .nilIface .nilIface).run Tryz.prog w=.ok (.bool true) w:=vY
theorem jg5(u:vB)(vk:Nat->vV):(brC u vk).length=17:=by simp[brC]
theorem jeH(u:vB)(vk:Nat->vV){i:Nat}(h:i < 16):(brC u vk)[1+i]?=some (vk i):=by
 rw[gN];show ((List.range 16).map vk)[i]?=_;rw[bX,dW h];rfl
def setV(vk:Nat->vV)(i:Nat)(v:vV):Nat->vV:=fun j=>if j=i then v else vk j
theorem jrI(u:vB)(vk:Nat->vV){i:Nat}(h:i < 16)(v:vV):(brC u vk).toArray.setIfInBounds (1+i) v=(brC u (setV vk i v)).toArray:=by
 have e:(brC u vk).set (1+i) v=brC u (setV vk i v):=by
  rw[gN];show Value.string u ::((List.range 16).map vk).set i v=Value.string u ::(List.range 16).map (setV vk i v)
  congr 1
  apply List.ext_getElem?;intro j;rw[List.getElem?_set]
  by_cases hj:i=j
  ·subst hj
   rw[if_pos rfl,if_pos (by simpa using h),bX,dW h];simp[setV]
  ·rw[if_neg hj]
   by_cases hj16:j < 16
   ·rw[bX,bX,dW hj16]
    simp[setV,Ne.symm hj]
   ·rw[jC (by simp;omega),jC (by simp;omega)]
 rw[<-e];simp
theorem jxq(u u':vB)(vk:Nat->vV):(brC u vk).toArray.setIfInBounds 0 (.string u')=(brC u' vk).toArray:=by simp[brC]
structure BrAt(u:vB)(ks:Nat->PA)(b:Nat)(vk:Nat->Value)(Dk:Nat->Nat->Prop)(D:Nat->Prop)(W:World):Prop where
 mem:D b
 blk:Blk W b (.cells (brC u vk).toArray 240)
 kid:∀ i,i < 16->PaAt (ks i) (vk i) (Dk i) W/\¬ Dk i b/\∀ x,Dk i x->D x
 apart:∀ i j,i < 16->j < 16->i≠j->∀ x,Dk i x->¬ Dk j x
 lt:∀ x,D x->x < W.heap.size
theorem BrAt.pa{u:vB}{ks:Nat->PA}{b:Nat}{vk:Nat->vV}{Dk:Nat->Nat->Prop}{D:Nat->Prop}{W:vW}(h:BrAt u ks b vk Dk D W):PaO (.br u ks) (brV b) D W:=
 ⟨⟨b,vk,Dk,rfl,h.mem,h.blk,h.kid,h.apart⟩,h.lt⟩
theorem PaO.br{u:vB}{ks:Nat->PA}{b:Nat}{D:Nat->Prop}{W:vW}(h:PaO (.br u ks) (brV b) D W):∃ o A,BrAt u ks b o A D W:=by
 obtain⟨O,o,A,e,E,H,J,K⟩:=h.at'
 unfold brV at e;injection e with _ e;injection e with e;injection e with e;injection e with e;subst e
 exact⟨o,A,E,H,J,K,h.lt⟩
theorem BrAt.keeps{F:BSet}{u:vB}{ks:Nat->PA}{b:Nat}{vk:Nat->vV}{Dk:Nat->Nat->Prop}{D:Nat->Prop}{W W':vW}(h:BrAt u ks b vk Dk D W)(k:jae F W W')(hF:∀ x,D x->¬ F x):BrAt u ks b vk Dk D W':=
 ⟨h.mem,h.blk.keeps k (hF b h.mem),fun i e=>⟨(h.kid i e).1.keeps k _ _ _ (fun x o=>hF x ((h.kid i e).2.2 x o)),(h.kid i e).2⟩,h.apart,fun x o=>bQ (h.lt x o) k.size⟩
theorem BrAt.val{u:vB}{ks:Nat->PA}{b:Nat}{vk:Nat->vV}{Dk:Nat->Nat->Prop}{D:Nat->Prop}{W:vW}(h:BrAt u ks b vk Dk D W)(u':vB):BrAt u' ks b vk Dk D (W.setCell ⟨b,0,none⟩ (.string u')):=by
 have K:=jae.oneSet W ⟨b,0,none⟩ (.string u');have E:=h.blk.set_same (i:=0) (.string u');rw[jxq]at E
 exact⟨h.mem,E,fun i o=>⟨(h.kid i o).1.keeps K _ _ _ (fun x A e=>(h.kid i o).2.1 (by have e:x=b:=e;rw[<-e];exact A)),(h.kid i o).2⟩,h.apart,fun x A=>bQ (h.lt x A) K.size⟩
theorem BrAt.turn{u:vB}{ks:Nat->PA}{b:Nat}{vk:Nat->vV}{Dk:Nat->Nat->Prop}{D:Nat->Prop}{W W1:vW}(h:BrAt u ks b vk Dk D W){i:Nat}(hi:i < 16){P:PA}{v:vV}(k:jae (Dk i) W W1)(hP:PaAt P v (Grow (Dk i) W W1) W1) :
  BrAt u (setK ks i P) b (setV vk i v) (fun j=>if j=i then Grow (Dk i) W W1 else Dk j) (Grow D W W1) (W1.setCell ⟨b,1+i,none⟩ v):=by
 have K:=jae.oneSet W1 ⟨b,1+i,none⟩ v;have Z:=(h.blk.keeps k (h.kid i hi).2.1).set_same (i:=1+i) v;rw[jrI u vk hi]at Z;have a0:=h.lt b h.mem
 refine⟨.inl h.mem,Z,fun j E=>?_,fun j l E X J x o A=>?_,fun x o=>?_⟩
 ·by_cases e:j=i
  ·subst e
   simp only[if_pos,jcn];rw[show setV vk j v j=v from if_pos rfl]
   refine⟨hP.keeps K _ _ _ (fun x o e=>?_),fun e=>?_,fun x o=>?_⟩
   ·have e:x=b:=e
    rw[e]at o;rcases o with o | o
    ·exact (h.kid j hi).2.1 o
    ·omega
   ·rcases e with e | e
    ·exact (h.kid j hi).2.1 e
    ·omega
   ·rcases o with o | o
    ·exact .inl ((h.kid j hi).2.2 x o)
    ·exact .inr o
  ·simp only[if_neg e]
   rw[jeW _ _ e,show setV vk i v j=vk j from if_neg e]
   refine⟨((h.kid j E).1.keeps k _ _ _ (fun x o A=>h.apart j i E hi e x o A)).keeps K _ _ _ (fun x o e=>?_),(h.kid j E).2.1,fun x o=>.inl ((h.kid j E).2.2 x o)⟩
   have e:x=b:=e;rw[e]at o;exact (h.kid j E).2.1 o
 ·have Q:∀ m,m < 16->Dk m x->¬(W.heap.size<=x/\x < W1.heap.size):=fun m hm hd e=>by have:=h.lt x ((h.kid m hm).2.2 x hd);omega
  by_cases e:j=i
  ·subst e
   have O:Grow (Dk j) W W1 x:=by simpa using o
   have H:Dk l x:=by simpa [Ne.symm J]using A
   rcases O with O | O
   ·exact h.apart j l E X J x O H
   ·exact Q l X H O
  ·have O:Dk j x:=by simpa [e]using o
   by_cases e2:l=i
   ·subst e2
    have H:Grow (Dk l) W W1 x:=by simpa using A
    rcases H with H | H
    ·exact h.apart j l E X J x O H
    ·exact Q j E O H
   ·have H:Dk l x:=by simpa [e2]using A
    exact h.apart j l E X J x O H
 ·exact bQ (jeM h.lt k x o) K.size
theorem BrAt.turn_keeps{u:vB}{ks:Nat->PA}{b:Nat}{vk:Nat->vV}{Dk:Nat->Nat->Prop}{D:Nat->Prop}{W W1:vW}(h:BrAt u ks b vk Dk D W){i:Nat}(hi:i < 16)(k:jae (Dk i) W W1)(v:vV):jae D W (W1.setCell ⟨b,1+i,none⟩ v):=
 (k.mono (fun x _ o=>(h.kid i hi).2.2 x o)).trans' (jae.oneSet W1 ⟨b,1+i,none⟩ v) (fun x _ e=>by have e:x=b:=e;rw[e];exact h.mem)
theorem jte(W:vW)(D:Nat->Prop)(p u:vB):vQ 250 #[.agg #[],.string p,.string u] W (PaTo D W (.leaf p u)):=by
 unfold vQ;go_in;go_wp2_with fail
 go_ret;have A:=((ExtR W).alloc (.cells #[] 242)).alloc (.cells #[.string p,.string u] 233);have o:=Blk.new (W.alloc (.cells #[] 242)) (.cells #[.string p,.string u] 233);rw[bT]at o;exact PaTo.mk1 ⟨_,rfl,.inr ⟨Nat.le_succ _,o.lt⟩,o⟩ (A.mono (fun _ _ e=>e.elim))
theorem joL(W:vW)(D:Nat->Prop)(u0 u:vB)(ks:Nat->PA)(b:Nat)(h:PaO (.br u0 ks) (brV b) D W):vQ 234 #[.pointer (some ⟨b,0,none⟩),.string ⟨#[]⟩,.string u] W (fun e w'=>e=.returned (brV b)/\PaTo D W (.br u ks) e w'):=by
 obtain⟨J,O,hb⟩:=h.br
 have Q:=hb.blk.cellL (i:=0) (v:=.string u0) vF;have X:W.frozen? ⟨b,0,none⟩=false:=hb.blk.frozen;have H:=Hd hb;have A:(⟨#[]⟩:vB).toList.isEmpty=true:=by rw[bR];rfl
 clear h hb;unfold vQ;go_in;go_wp2_with fail
 go_ret;have K:=jae.oneSet W ⟨b,0,none⟩ (.string u)
 exact⟨rfl,PaTo.mk1 ((H.o.val u).pa.at'.mono (fun x E=>.inl E)) (K.mono (fun x _ e=>by have e:x=b:=e;rw[e];exact H.o.mem))⟩
theorem juM(W:vW)(D:Nat->Prop)(u0 u:vB)(ks:Nat->PA)(b:Nat)(h:PaO (.br u0 ks) (brV b) D W)(p:vB)(h0:p.size≠0)(hp:jaB p=true)(hs:p.size<=900000)(hn:(ks (jau p)).isNil=false)(hd:Dp (ks (jau p)) 900000)(hk:PutC (ks (jau p))) :
  vQ 234 #[.pointer (some ⟨b,0,none⟩),.string p,.string u] W (fun e w'=>e=.returned (brV b)/\PaTo D W (.br u0 (setK ks (jau p) (putP (ks (jau p)) (jbC p) u))) e w'):=by
 obtain⟨vk,Dk,hb⟩:=h.br
 obtain⟨y,t,hy⟩:=jco h0
 obtain⟨e1,e2⟩:=jbL hy
 have A:=jdU hp h0
 obtain⟨g0,a6⟩:=jgy hy
 have b1:=jc5 h0;have Q:=jcz hp;have a3:(jbC p).size<=900000:=by unfold jbC;rw[ja1];omega
 have hI:jau p=(p[0]'g0).toNat:=by rw[e1,a6]
 have J:=hb.kid (jau p) A
 obtain⟨T,x,a1⟩:=J.1.form hn
 have q1:=hb.blk.cellL (jeH u0 vk A);rw[a1]at q1;have HK:=Hd hk;have HB:=Hd hb;have HM:=Hd ((show PaAt (ks (jau p)) (.iface T x) (Dk (jau p)) W by rw[<-a1];exact J.1).meth);have a8:=Hd (show PaAt (ks (jau p)) (.iface T x) (Dk (jau p)) W by rw[<-a1];exact J.1);have a9:=Hd hd;clear hb J hk hd;have a0:=Hd (show ∀ X,Ext W X->vQ (jkX (ks (jau p))) #[x,.string (jbC p),.string u] X (PaTo (Dk (jau p)) X (putP (ks (jau p)) (jbC p) u))from fun X e=>HK.o X T x _ _ _ ⟨a8.o.keeps e _ _ _ (fun _ _ e=>e),fun z hz=>bQ (HB.o.lt z ((HB.o.kid _ A).2.2 z hz)) e.size⟩ a3 Q a9.o);have hQ:=jnW T x;have Q1:=Hd q1;have b0:=Hd (show ¬(Dk (jau p) b\/W.heap.size<=b)from fun e=>e.elim (HB.o.kid _ A).2.1 (fun e=>by have:=HB.o.lt b HB.o.mem;omega));have a4:=Hd hI;have E:=Hd A;have b2:=Hd (bB Q a3);have c1:(0:Int) < (p.size:Int):=vO
 have c2:((p[0]'g0).toNat:Int) < 16:=vO
 have c3:(1:Int)<=(p.size:Int):=vO
 rw[hI]at q1;have a7:(p[0]'g0).toNat < 16:=vO
 obtain⟨i,hi⟩:=vE (p[0]'g0).toNat
 have b3:=Hd hi;clear h a1 hy e1 e2 h0 hp hn a6 Q a3 A hI hi;go_enter Tryz.func234,Tryz.ntmps234;go_wp2_with fail
 refine jdf [0,1,2,3,4,5,6,7,8,9,10,11,12,14,15,13,16] 17 [13] Ext (jae (fun z=>Dk (jau p) z\/W.heap.size<=z)) ExtR ExtT (fun x y z h k=>jae.trans h k) (fun x y h=>h.mono (fun _ _ h=>h.elim)) vY vY vY ?_;iterate 4 refine vZ ?_
 refine jcM _ ((.pointer (some ⟨b,0,none⟩))) rfl vY rfl (fun w1=>by kernel_rfl) ?_;refine vS ?_;iterate 2 refine vZ ?_
 refine jgF ⟨b,1+(p[0]'g0).toNat,none⟩ _ rfl vY vY rfl rfl (fun w1 h1=>jaE (fun w=>by kernel_rfl) (by rw[<-a4.o];exact jam Q1.o (((jae.refl (fun z=>Dk (jau p) z\/W.heap.size<=z) W).drew).trans h1) (by exact b0.o))) ?_;refine vS ?_;iterate 3 refine vZ ?_
 refine jcM _ (.iface T x) rfl vY rfl (fun w1=>by kernel_rfl) ?_;refine vS ?_
 refine vZ ?_
 refine jcM _ ((.pointer (some ⟨b,0,none⟩))) rfl vY rfl (fun w1=>by kernel_rfl) ?_;refine vS ?_
 refine vZ ?_
 refine jgD _ rfl vY rfl (fun X hb K hK=>?_);have kb:Ext W X:=(jai _).trans hb;refine jbK (jcN (f:=jkX (ks (jau p))) (vs:=#[.string (jbC p),.string u]) rfl (HM.o.put _) (jiz _) vY) ?_;refine (a0.o X kb).mono ?_;rintro e w2 ⟨v2,rfl,Z,O⟩
 refine⟨v2,rfl,hK _ _ (O.mono (fun z _ hz=>.inl hz)) ?_⟩
 have HS:=Hd (bB kb (bB Z O));clear hK K hb kb Z O;refine vS ?_
 refine vZ ?_
 refine jgE _ rfl vY rfl (fun wc hc K hK=>?_)
 obtain⟨hb,Z,O⟩:=HS.o
 have H:=HB.o.keeps (F:=fun _=>False) (hb) (fun _ _ e=>e);have kc:jae (Dk (jau p)) X wc:=O.trans (hc.mono (fun _ _ e=>e.elim));have a5:PaAt (putP (ks (jau p)) (jbC p) u) v2 (Grow (Dk (jau p)) X wc) wc:=(Z.keeps hc _ _ _ (fun _ _ e=>e)).mono (fun z hz=>hz.imp id (fun e=>⟨e.1,bQ e.2 hc.size⟩))
 obtain⟨T2,x2,rfl⟩:=a5.form (jiZ _ _ _)
 have ht:=H.turn E.o kc a5;have a2:=H.turn_keeps E.o kc (.iface T2 x2)
 obtain⟨old,q7⟩:∃ v,wc.cell? ⟨b,1+jau p,none⟩=some v:=⟨_,(H.blk.keeps kc (H.kid _ E.o).2.1).cellL (bA (by rw[jg5];have:=E.o;omega))⟩
 have f7:wc.frozen? ⟨b,1+jau p,none⟩=false:=(H.blk.keeps kc (H.kid _ E.o).2.1).frozen;have HT:=Hd (bB ht (bB a2 hb));rw[a4.o]at q7 f7;clear hb Z O H kc a5 ht a2 hc;go_simp;refine hK _ _ ?_;clear hK K q7 f7;go_wp2_with fail
 go_ret
 obtain⟨ht,a2,hb⟩:=HT.o
 rw[<-a4.o]
 exact⟨rfl,PaTo.mk1 (ht.pa.at'.mono (fun z hz=>hz.imp id (fun e=>⟨bJ hb.size e.1,bQ e.2 (jae.oneSet wc ⟨b,1+jau p,none⟩ (.iface T2 x2)).size⟩))) (((hb.mono (fun _ _ e=>e.elim)):jae D W X).trans a2)⟩
theorem joK(W:vW)(D:Nat->Prop)(u0 u:vB)(ks:Nat->PA)(b:Nat)(h:PaO (.br u0 ks) (brV b) D W)(p:vB)(h0:p.size≠0)(hp:jaB p=true)(hs:p.size<=900000)(hn:(ks (jau p)).isNil=true) :
  vQ 234 #[.pointer (some ⟨b,0,none⟩),.string p,.string u] W (fun e w'=>e=.returned (brV b)/\PaTo D W (.br u0 (setK ks (jau p) (.leaf (jbC p) u))) e w'):=by
 obtain⟨vk,Dk,hb⟩:=h.br
 obtain⟨y,t,hy⟩:=jco h0
 obtain⟨e1,e2⟩:=jbL hy
 have A:=jdU hp h0
 obtain⟨g0,b0⟩:=jgy hy
 have c0:=jc5 h0;have a3:=jcz hp;have b1:(jbC p).size<=900000:=by unfold jbC;rw[ja1];omega
 have hI:jau p=(p[0]'g0).toNat:=by rw[e1,b0]
 have a4:=hb.kid (jau p) A;have b2:vk (jau p)=.nilIface:=by have:=a4.1;rw[jbF hn]at this;exact this
 have q1:=hb.blk.cellL (jeH u0 vk A);rw[b2]at q1;have f1:W.frozen? ⟨b,1+jau p,none⟩=false:=hb.blk.frozen
 obtain⟨W1,O⟩:=vE (W.setCell ⟨b,1+jau p,none⟩ noV)
 have Z:=hb.turn A (P:=.no) (v:=noV) (jae.refl _ W) rfl;rw[<-O]at Z
 obtain⟨Q,a5⟩:=vE (fun j=>if j=jau p then Grow (Dk (jau p)) W W else Dk j)
 obtain⟨b7,a0⟩:=vE (setK ks (jau p) .no)
 have a6:setK b7 (jau p) (.leaf (jbC p) u)=setK ks (jau p) (.leaf (jbC p) u):=by
  funext j;unfold setK;rw[a0];unfold setK
  by_cases e:j=jau p
  ·rw[if_pos e,if_pos e]
  ·rw[if_neg e,if_neg e,if_neg e]
 rw[<-a5, <-a0]at Z;have b3:W1.cell? ⟨b,1+jau p,none⟩=some noV:=by
  have:=Z.blk.cellL (jeH u0 _ A)
  rw[this];show some (setV vk (jau p) noV (jau p))=_;unfold setV;rw[if_pos rfl]
 have c4:=Hd O;have b8:=Hd a6;have b4:Hid (∀ z,Grow D W W z->D z):=(fun z J=>J.elim id (fun e=>by omega));have b5:=Hd (show jae D W W1 by rw[O];exact (jae.oneSet W ⟨b,1+jau p,none⟩ noV).mono (fun z _ e=>by have e:z=b:=e;rw[e];exact hb.mem));have HB:=Hd Z;have Q1:=Hd b3;clear a5 a0 Z b3 a6 hb a4;unfold noV at O Q1;have a1:=Hd (show ∀ wb,Ext W1 wb->vQ 250 #[.agg #[],.string (jbC p),.string u] wb (PaTo (Q (jau p)) wb (.leaf (jbC p) u))from fun wb _=>jte wb _ _ _);have b9:=Hd (show ¬(Q (jau p) b\/W1.heap.size<=b)from fun e=>e.elim (HB.o.kid _ A).2.1 (fun e=>by have:=HB.o.lt b HB.o.mem;omega));have a8:=Hd hI;have E:=Hd A;have c5:=Hd (bB a3 b1);have c1:(0:Int) < (p.size:Int):=vO
 have c2:((p[0]'g0).toNat:Int) < 16:=vO
 have c3:(1:Int)<=(p.size:Int):=vO
 rw[hI]at q1 f1 O;have b6:(p[0]'g0).toNat < 16:=vO
 obtain⟨i,hi⟩:=vE (p[0]'g0).toNat
 have c6:=Hd hi;clear h b2 hy e1 e2 h0 hp hn b0 a3 b1 A hI hi;go_enter Tryz.func234,Tryz.ntmps234;go_wp2_with fail
 rw[<-O];refine jdf [0,1,2,3,4,5,6,7,8,9,10,11,12,14,15,13,16] 17 [13] Ext (jae (fun z=>Q (jau p) z\/W1.heap.size<=z)) ExtR ExtT (fun x y z h k=>jae.trans h k) (fun x y h=>h.mono (fun _ _ h=>h.elim)) vY vY vY ?_;iterate 4 refine vZ ?_
 refine jcM _ ((.pointer (some ⟨b,0,none⟩))) rfl vY rfl (fun w1=>by kernel_rfl) ?_;refine vS ?_;iterate 2 refine vZ ?_
 refine jgF ⟨b,1+(p[0]'g0).toNat,none⟩ _ rfl vY vY rfl rfl (fun w1 h1=>jaE (fun w=>by kernel_rfl) (by rw[<-a8.o];exact jam Q1.o (((jae.refl (fun z=>Q (jau p) z\/W1.heap.size<=z) W1).drew).trans h1) (by exact b9.o))) ?_;refine vS ?_;iterate 3 refine vZ ?_
 refine jcM _ (.iface 242 (.agg #[])) rfl vY rfl (fun w1=>by kernel_rfl) ?_;refine vS ?_
 refine vZ ?_
 refine jcM _ ((.pointer (some ⟨b,0,none⟩))) rfl vY rfl (fun w1=>by kernel_rfl) ?_;refine vS ?_
 refine vZ ?_
 refine jgD _ rfl vY rfl (fun wb hb K hK=>?_);have kb:Ext W1 wb:=(jai _).trans hb;refine jbK (jcN (f:=250) (vs:=#[.string (jbC p),.string u]) rfl (jx4.put _) (fun args w=>by kernel_rfl) vY) ?_;refine (a1.o wb kb).mono ?_;rintro e w2 ⟨v2,rfl,a2,X⟩
 refine⟨v2,rfl,hK _ _ (X.mono (fun z _ J=>.inl J)) ?_⟩
 have HS:=Hd (bB kb (bB a2 X));clear hK K hb kb a2 X;refine vS ?_
 refine vZ ?_
 refine jgE _ rfl vY rfl (fun wc hc K hK=>?_)
 obtain⟨hb,a2,X⟩:=HS.o
 have H:=HB.o.keeps (F:=fun _=>False) (hb) (fun _ _ e=>e);have kc:jae (Q (jau p)) wb wc:=X.trans (hc.mono (fun _ _ e=>e.elim));have a9:PaAt (PA.leaf (jbC p) u) v2 (Grow (Q (jau p)) wb wc) wc:=(a2.keeps hc _ _ _ (fun _ _ e=>e)).mono (fun z J=>J.imp id (fun e=>⟨e.1,bQ e.2 hc.size⟩))
 obtain⟨T2,x2,rfl⟩:=a9.form rfl
 have ht:=H.turn E.o kc a9;have a7:=H.turn_keeps E.o kc (.iface T2 x2)
 obtain⟨old,q7⟩:∃ v,wc.cell? ⟨b,1+jau p,none⟩=some v:=⟨_,(H.blk.keeps kc (H.kid _ E.o).2.1).cellL (bA (by rw[jg5];have:=E.o;omega))⟩
 have f7:wc.frozen? ⟨b,1+jau p,none⟩=false:=(H.blk.keeps kc (H.kid _ E.o).2.1).frozen;have HT:=Hd (bB ht (bB a7 hb));rw[a8.o]at q7 f7;clear hb a2 X H kc a9 ht a7 hc;go_simp;refine hK _ _ ?_;clear hK K q7 f7;go_wp2_with fail
 go_ret
 obtain⟨ht,a7,hb⟩:=HT.o
 rw[<-a8.o];have a6:=b8.o
 refine⟨rfl,PaTo.mk1 (PaAt.mono (fun z J=>?_) (by rw[<-a6];exact ht.pa.at')) ((b5.o.trans (hb.mono (fun _ _ e=>e.elim))).trans (a7.mono (fun z _ J=>b4.o z J)))⟩
 rcases J with J | J
 ·exact .inl (b4.o z J)
 ·exact .inr ⟨bJ (bJ b5.o.size hb.size) J.1,bQ J.2 (jae.oneSet wc ⟨b,1+jau p,none⟩ (.iface T2 x2)).size⟩
end
section
attribute [local go_sem] Oper.semAt_some
def AddP(D:Nat->Prop)(W:vW)(b:Nat)(P:PA)(e:Ending)(w':vW):Prop:=e=.returned (brV b)/\PaAt P (brV b) (Grow D W w') w'/\jae D W w'
theorem jkv(W:vW)(D:Nat->Prop)(v:vB)(ks:Nat->PA)(b:Nat)(h:PaO (.br v ks) (brV b) D W)(p u:vB)(hp:jaB p=true)(hs:p.size<=900000)(hf:∀ x t,p.data.toList=x :: t->(ks x.toNat).isNil=true) :
  vQ 234 #[.pointer (some ⟨b,0,none⟩),.string p,.string u] W (AddP D W b (addK (.br v ks) p u)):=by
 rw[jcW]
 by_cases h0:p.size=0
 ·rw[if_pos h0,jby h0]
  refine (joL W D v u ks b h).mono ?_;rintro e w' ⟨rfl,H,e,o,A⟩;injection e with e;subst e
  exact⟨rfl,o,A⟩
 ·rw[if_neg h0]
  obtain⟨x,t,E⟩:=jco h0
  refine (joK W D v u ks b h p h0 hp hs (by rw[(jbL E).1];exact hf x t E)).mono ?_;rintro e w' ⟨rfl,H,e,o,A⟩;injection e with e;subst e
  exact⟨rfl,o,A⟩
theorem jwD{W:vW}{b:Nat}(h:Blk W b (.cells #[.string ⟨#[]⟩,.nilIface,.nilIface,.nilIface,.nilIface,.nilIface,.nilIface,.nilIface,.nilIface,.nilIface,.nilIface,.nilIface,.nilIface,.nilIface,.nilIface,.nilIface,.nilIface] 240)) :
  BrAt ⟨#[]⟩ (fun _=>.nil) b (fun _=>.nilIface) (fun _ _=>False) (fun x=>x=b) W:=
 ⟨rfl,h,fun i _=>⟨rfl,fun e=>e,fun _ e=>e.elim⟩,fun _ _ _ _ _ _ e=>e.elim,fun x e=>by rw[e];exact h.lt⟩
theorem AddP.br{D:Nat->Prop}{W w':vW}{b:Nat}{P:PA}(h:PaAt P (brV b) (Grow D W w') w')(k:jae D W w')(hl:∀ x,D x->x < W.heap.size):PaO P (brV b) (Grow D W w') w':=⟨h,jeM hl k⟩
theorem jsN(W:vW)(D:Nat->Prop)(q v u:vB)(b:Nat)(o:Blk W b (.cells #[.string q,.string v] 233)):vQ 233 #[.pointer (some ⟨b,0,none⟩),.string q,.string u] W (PaTo D W (.leaf q u)):=by
 have E:=o.cell (i:=0) (v:=.string q) vF;clear o;have A:(q.toList == q.toList)=true:=by simp
 unfold vQ;go_in;go_wp2_with fail
 go_ret;have o:=Blk.new W (.cells #[.string q,.string u] 233);exact PaTo.mk1 ⟨_,rfl,.inr ⟨bL _,o.lt⟩,o⟩ (((ExtR W).alloc _).mono (fun _ _ e=>e.elim))
theorem jwr(q p v:vB):(∀ x t,(q.extract (jal q p) q.size).data.toList=x :: t->PA.isNil ((fun _=>PA.nil) x.toNat)=true)/\∃ v1 ks1,addK (.br ⟨#[]⟩ fun _=>.nil) (q.extract (jal q p) q.size) v=.br v1 ks1/\∀ x t,(p.extract (jal q p) p.size).data.toList=x :: t->(ks1 x.toNat).isNil=true:=by
 refine⟨fun _ _ _=>rfl,?_⟩
 obtain⟨K,O,ha,hb,o,A,E⟩:=jcQ q.data.toList p.data.toList
 have e:(q.extract (jal q p) q.size).data.toList=K:=by rw[jdR,o];rfl
 have H:(p.extract (jal q p) p.size).data.toList=O:=by rw[jdR,A];rfl
 obtain⟨Q,X⟩:∃ x,x=q.extract (jal q p) q.size:=⟨_,rfl⟩
 rw[<-X]at e ⊢;rw[jcW]
 by_cases h0:Q.size=0
 ·rw[if_pos h0];exact⟨_,_,rfl,fun _ _ _=>rfl⟩
 ·rw[if_neg h0]
  refine⟨_,_,rfl,fun y t Z=>?_⟩
  obtain⟨x,s,J⟩:=jco h0
  unfold setK;rw[(jbL J).1,if_neg (jde (Ne.symm (E x s y t (by rw[<-e,J]) (by rw[<-H,Z]))))];rfl
theorem jqO(W:vW)(D:Nat->Prop)(q v p u:vB)(b:Nat)(hB:Blk W b (.cells #[.string q,.string v] 233))(hne:p≠q)(hq:jaB q=true)(hp:jaB p=true)(hqs:q.size<=900000)(hps:p.size<=900000) :
  vQ 233 #[.pointer (some ⟨b,0,none⟩),.string p,.string u] W (PaTo D W (putP (.leaf q v) p u)):=by
 have q0:=hB.cell (i:=0) (v:=.string q) vF;have Q0:=Hd q0;have Q1:=Hd (hB.cell (i:=1) (v:=.string v) vF);have HB:=Hd hB;have d3:(p.toList == q.toList)=false:=by rw[jeQ];exact decide_eq_false hne
 obtain⟨c1,c2⟩:=jfc q p
 have Q:putP (.leaf q v) p u=jcj (p.extract 0 (jal q p)) (addK (addK (.br ⟨#[]⟩ fun _=>.nil) (q.extract (jal q p) q.size) v) (p.extract (jal q p) p.size) u):=by
  show (if p=q then PA.leaf p u else _)=_;rw[if_neg hne]
 have X:=jwr q p v;have Z:=fun w=>jfE w q p vO vO
 obtain⟨m,hm⟩:=vE (jal q p)
 rw[<-hm]at c1 c2 Q X Z;rw[Q];have b0:(q.extract m q.size).size<=900000:=by rw[ja1];omega
 have b1:(p.extract m p.size).size<=900000:=by rw[ja1];omega
 have b2:(p.extract 0 m).size<=900000:=by rw[cJ];omega
 have b3:jaB (q.extract m q.size)=true:=jbw hq _ _;have b4:jaB (p.extract m p.size)=true:=jbw hp _ _
 obtain⟨E,v1,a1,e1,H⟩:=X
 have b5:Dp (addK (.br v1 a1) (p.extract m p.size) u) 1000000:=jiu (by rw[<-e1];exact jiu (jhR _ _) vO _) vO _;have b6:(addK (.br v1 a1) (p.extract m p.size) u).isNil=false:=by rw[jcW];split <;> rfl
 rw[e1];have HF:=Hd (bB (bB E (bB e1 H)) (bB b0 (bB b1 (bB b2 (bB b3 b4)))));have b7:=Hd (bB b5 b6);have HC:=Hd Z;have d4:(m:Int)<=(q.size:Int):=vO
 have d5:(m:Int)<=(p.size:Int):=vO
 clear hB hne hq hp Q hm E H e1 b5 b6 b0 b1 b2 b3 b4 Z;go_enter Tryz.func233,Tryz.ntmps233;go_wp2_with fail
 refine (HC.o _).mono ?_;rintro e w1 ⟨rfl,n,rfl⟩;go_wp2_with fail
 obtain⟨A,a2⟩:=vE W.heap.size
 obtain⟨W2,a3⟩:=vE ((W.drewN n).alloc (.cells #[.string ⟨#[]⟩,.nilIface,.nilIface,.nilIface,.nilIface,.nilIface,.nilIface,.nilIface,.nilIface,.nilIface,.nilIface,.nilIface,.nilIface,.nilIface,.nilIface,.nilIface,.nilIface] 240))
 have b8:Ext W W2:=by rw[a3];exact ((ExtR W).drewN n).alloc _
 have b9:BrAt ⟨#[]⟩ (fun _=>.nil) A (fun _=>.nilIface) (fun _ _=>False) (fun x=>x=A) W2:=by rw[a3,a2];exact jwD (Blk.new (W.drewN n) _)
 have c0:W.heap.size<=A:=by rw[a2];exact bL _
 have a4:=Hd b8;have c3:=Hd b9;have a8:=Hd c0;have c4:=Hd (show ¬ W.heap.size<=b from by have:=HB.o.lt;omega);rw[<-a3, <-a2];clear a2 a3 b8 b9 c0;refine jaC [0,1,2,3,4,5,6,7,8,9,10,11] [11] Ext (jae (fun z=>W.heap.size<=z)) ExtR ExtT (fun x y z h k=>jae.trans h k) (fun x y h=>h.mono (fun _ _ h=>h.elim)) vY vY vY ?_;iterate 2 refine vD ?_
 refine qDV _ ((.pointer (some ⟨b,0,none⟩))) rfl (fun w1 _=>by kernel_rfl) ?_;refine vS ?_
 refine vD ?_
 refine qDL ⟨b,0,none⟩ _ rfl (fun w1 h1=>jaE (fun w=>by kernel_rfl) (jam (jaa Q0.o a4.o) (((jae.refl (fun z=>W.heap.size<=z) W2).drew).trans h1) (by exact c4.o))) ?_;refine vS ?_;iterate 3 refine vD ?_
 refine qDV _ ((.pointer (some ⟨b,0,none⟩))) rfl (fun w1 _=>by kernel_rfl) ?_;refine vS ?_
 refine vD ?_
 refine qDL ⟨b,1,none⟩ _ rfl (fun w1 h1=>jaE (fun w=>by kernel_rfl) (jam (jaa Q1.o a4.o) (((jae.refl (fun z=>W.heap.size<=z) W2).drew).trans h1) (by exact c4.o))) ?_;refine vS ?_;refine qDH _ rfl (fun wb hb K hK=>?_);have kb:Ext W2 wb:=(jai _).trans hb
 obtain⟨E,e1,H⟩:=HF.o.1
 refine jbK (jat (vX 234) vY) ((jkv wb (fun x=>x=A) ⟨#[]⟩ (fun _=>.nil) A ((c3.o.keeps kb (fun _ _ e=>e)).pa) (q.extract m q.size) v HF.o.2.2.2.2.1 HF.o.2.1 E).mono ?_);rintro e w3 ⟨rfl,J,O⟩
 refine⟨_,rfl,hK _ _ (O.mono (fun z _ e=>by have e:z=A:=e;rw[e];exact a8.o)) ?_⟩
 rw[e1]at J;have HS:=Hd (bB kb (bB J O));clear hK K hb kb J O e1;refine vS ?_;refine qDE (fun wc hc=>?_)
 obtain⟨kb,J,O⟩:=HS.o
 have kc:jae (fun x=>x=A) wb wc:=O.trans (hc.mono (fun _ _ e=>e.elim));have c5:PaAt (.br v1 a1) (brV A) (Grow (fun x=>x=A) wb wc) wc:=(J.keeps hc _ _ _ (fun _ _ e=>e)).mono (fun z hz=>hz.imp id (fun e=>⟨e.1,bQ e.2 hc.size⟩));have c6:=AddP.br c5 kc (fun x e=>by have e:x=A:=e;rw[e];exact bQ c3.o.blk.lt kb.size);have c7:Ext W wc:=(a4.o.trans kb).trans' kc (fun x hx e=>by have e:x=A:=e;have:=a8.o;omega);have a5:=Hd (bB c6 c7);have c8:Hid (∀ x,Grow (fun x=>x=A) wb wc x->W.heap.size<=x):=(fun x hx=>hx.elim (fun e=>by rw[e];exact a8.o) (fun e=>bJ (bJ a4.o.size kb.size) e.1));clear hc kb J O kc c5 c6 c7 HS;go_wp2_with fail
 obtain⟨E,e1,H⟩:=HF.o.1
 refine (jkv wc _ v1 a1 A a5.o.1 (p.extract m p.size) u HF.o.2.2.2.2.2 HF.o.2.2.1 H).mono ?_;rintro e w4 ⟨rfl,c9,a9⟩;have d0:=AddP.br c9 a9 a5.o.1.lt;have d1:Ext W w4:=a5.o.2.trans' a9 (fun x hx e=>by have:=c8.o x e;omega);have d2:Hid (∀ x,Grow (Grow (fun x=>x=A) wb wc) wc w4 x->W.heap.size<=x):=fun x hx=>hx.elim (c8.o x) (fun e=>bJ a5.o.2.size e.1);have a6:=Hd (bB d0 d1);clear c9 a9 d0 d1 e1 E H;unfold brV;go_wp2_with fail
 refine (pj_c w4 _ (p.extract 0 m) _ (brV A) a6.o.1 b7.o.2 (by have:=HF.o.2.2.2.1;omega) b7.o.1).mono ?_;rintro e w5 ⟨v5,rfl,a7,a0⟩;have HZ:=Hd (bB a7 a0);clear a7 a0;go_wp2_with fail
 go_ret
 obtain⟨a7,a0⟩:=HZ.o
 exact PaTo.mk1 (a7.mono (fun x hx=>.inr ⟨hx.elim (d2.o x) (fun e=>bJ a6.o.2.size e.1),(jeM a6.o.1.lt a0) x hx⟩)) ((a6.o.2.trans a0).mono (fun _ _ e=>e.elim))
theorem BrAt.give{u:vB}{ks:Nat->PA}{b:Nat}{vk:Nat->vV}{Dk:Nat->Nat->Prop}{D E:Nat->Prop}{W:vW}(h:BrAt u ks b vk Dk D W){i:Nat}(hi:i < 16){P:PA}{v:vV}(hP:PaAt P v E W)(hE:∀ x,E x->¬ D x/\x < W.heap.size) :
  BrAt u (setK ks i P) b (setV vk i v) (fun j=>if j=i then E else Dk j) (fun x=>D x\/E x) (W.setCell ⟨b,1+i,none⟩ v):=by
 have K:=jae.oneSet W ⟨b,1+i,none⟩ v;have X:=h.blk.set_same (i:=1+i) v;rw[jrI u vk hi]at X
 refine⟨.inl h.mem,X,fun j A=>?_,fun j l A Z J x o H=>?_,fun x o=>?_⟩
 ·by_cases e:j=i
  ·subst e
   simp only[if_pos,jcn];rw[show setV vk j v j=v from if_pos rfl]
   refine⟨hP.keeps K _ _ _ (fun x o e=>?_),fun e=>(hE b e).1 h.mem,fun x o=>.inr o⟩
   have e:x=b:=e;rw[e]at o;exact (hE b o).1 h.mem
  ·simp only[if_neg e]
   rw[jeW _ _ e,show setV vk i v j=vk j from if_neg e]
   refine⟨(h.kid j A).1.keeps K _ _ _ (fun x o e=>?_),(h.kid j A).2.1,fun x o=>.inl ((h.kid j A).2.2 x o)⟩
   have e:x=b:=e;rw[e]at o;exact (h.kid j A).2.1 o
 ·by_cases e:j=i
  ·subst e
   have Q:E x:=by simpa using o
   have O:Dk l x:=by simpa [Ne.symm J]using H
   exact (hE x Q).1 ((h.kid l Z).2.2 x O)
  ·have Q:Dk j x:=by simpa [e]using o
   by_cases e2:l=i
   ·subst e2
    have O:E x:=by simpa using H
    exact (hE x O).1 ((h.kid j A).2.2 x Q)
   ·have O:Dk l x:=by simpa [e2]using H
    exact h.apart j l A Z J x Q O
 ·rcases o with o | o
  ·exact bQ (h.lt x o) K.size
  ·exact bQ (hE x o).2 K.size
theorem jxO{q:vB}{m:Nat}(h:m < q.size):jau (q.extract m q.size)=(q[m]).toNat:=by
 unfold jau;have e:m < q.data.toList.length:=by rw[jaS];exact h
 rw[jdR,fZ e];rfl
theorem jxD(W:vW)(D:Nat->Prop)(q:vB)(n:PA)(T:TypeId)(x:vV)(Dn:Nat->Prop)(b:Nat)(hB:Blk W b (.cells #[.string q,.iface T x] 236))(hv:PaAt n (.iface T x) Dn W)(hbn:¬ Dn b)(hD:∀ x,Dn x->D x/\x < W.heap.size)(p u:vB)(hq:jaB q=true)(hp:jaB p=true)(hqs:q.size<=900000)(hps:p.size<=900000)(X:Dp n 900000)(hk:PutC n)(hnil:n.isNil=false)(hf:jal q p=q.size) :
  vQ 239 #[.pointer (some ⟨b,0,none⟩),.string p,.string u] W (PaTo D W (jcj q (putP n (p.extract q.size p.size) u))):=by
 have q0:=hB.cell (i:=0) (v:=.string q) vF;have q1:=hB.cell (i:=1) (v:=.iface T x) vF;have Q0:=Hd q0;have Q1:=Hd q1;have HB:=Hd hB;have HV:=Hd hv;have HD:Hid (∀ z,Dn z->D z/\z < W.heap.size):=hD
 obtain⟨c1,c2⟩:=jfc q p
 have J:=fun w=>jfE w q p vO vO;rw[hf]at c1 c2 J;have HC:=Hd J;have a9:=hB.lt;have a5:=Hd (show ¬(Dn b\/W.heap.size<=b)from fun e=>e.elim hbn (fun e=>by omega));have a1:jaB (p.extract q.size p.size)=true:=jbw hp _ _;have a3:(p.extract q.size p.size).size<=900000:=by rw[ja1];omega
 have HM:=Hd hv.meth;have a0:=Hd (show ∀ O,Ext W O->vQ (jkX n) #[x,.string (p.extract q.size p.size),.string u] O (PaTo Dn O (putP n (p.extract q.size p.size) u))from fun O e=>hk O T x Dn _ _ ⟨hv.keeps e _ _ _ (fun _ _ e=>e),fun z A=>bQ (hD z A).2 e.size⟩ a3 a1 X);have b0:Hid (Dp (putP n (p.extract q.size p.size) u) 1000000):=(jch _ _ _ (joW n 900000 _ u X a3) vO);have b2:(q.size:Int)<=(p.size:Int):=vO
 have b3:((q.size:Int) ==(q.size:Int))=true:=by simp
 clear hB hv hbn hD hq hp X hk hf a1 a3 J a9;go_enter Tryz.func239,Tryz.ntmps239;go_wp2_with fail
 refine (HC.o _).mono ?_;rintro e w1 ⟨rfl,k,rfl⟩;have a6:=Hd (show jae (fun z=>Dn z\/W.heap.size<=z) W ((W.drewN k).drew)from((jae.refl _ W).drewN k).drew);go_wp2_with fail
 refine jaC [0,1,2,3,4,5,6,7,8,9,10,11,12,13,14,15,16] [14,15] Ext (jae (fun z=>Dn z\/W.heap.size<=z)) ExtR ExtT (fun x y z h k=>jae.trans h k) (fun x y h=>h.mono (fun _ _ h=>h.elim)) vY vY vY ?_
 refine vD ?_
 refine qDV _ ((.pointer (some ⟨b,0,none⟩))) rfl (fun w1 _=>by kernel_rfl) ?_;refine vS ?_
 refine vD ?_
 refine qDL ⟨b,0,none⟩ _ rfl (fun w1 h1=>jaE (fun w=>by kernel_rfl) (jam Q0.o (a6.o.trans h1) (by exact a5.o))) ?_;refine vS ?_
 refine vD ?_
 refine qDV _ ((.pointer (some ⟨b,0,none⟩))) rfl (fun w1 _=>by kernel_rfl) ?_;refine vS ?_
 refine vD ?_
 refine qDL ⟨b,1,none⟩ _ rfl (fun w1 h1=>jaE (fun w=>by kernel_rfl) (jam Q1.o (a6.o.trans h1) (by exact a5.o))) ?_;refine vS ?_;iterate 4 refine vD ?_
 refine qDV _ (.iface T x) rfl (fun w1 _=>by kernel_rfl) ?_;refine vS ?_
 refine vD ?_
 refine qDH _ rfl (fun O hb K hK=>?_);have Z:Ext W O:=(((ExtR W).drewN k).drew).trans hb;refine jbK (jcN (f:=jkX n) (vs:=#[.string (p.extract q.size p.size),.string u]) rfl (HM.o.put _) (jiz _) vY) ?_;refine (a0.o O Z).mono ?_;rintro e w2 ⟨v2,rfl,Q,E⟩
 refine⟨v2,rfl,hK _ _ (E.mono (fun z _ A=>.inl A)) ?_⟩
 have HS:=Hd (bB Z (bB Q E));clear hK K hb Z Q E;refine vS ?_;refine qDH _ rfl (fun wc hc K hK=>?_)
 obtain⟨Z,Q,E⟩:=HS.o
 have kc:jae Dn O wc:=E.trans (hc.mono (fun _ _ e=>e.elim));have a7:PaAt (putP n (p.extract q.size p.size) u) v2 (Grow Dn O wc) wc:=(Q.keeps hc _ _ _ (fun _ _ e=>e)).mono (fun z A=>A.imp id (fun e=>⟨e.1,bQ e.2 hc.size⟩));have a4:=PaTo.own a7 kc (fun z A=>bQ (HD.o z A).2 Z.size);refine jbK (jat (vX 235) vY) ((pj_c wc _ q _ v2 a4 (jiZ _ _ _) vO b0.o).mono ?_);rintro e w5 ⟨v5,rfl,a2,H⟩
 refine⟨v5,rfl,hK _ _ (H.mono (fun _ _ e=>e.elim)) ?_⟩
 have HZ:=Hd (bB kc (bB a2 (bB H (jeM a4.lt H))));clear hK K hc Z Q E kc a7 a4 a2 H;refine vS ?_
 refine vD ?_
 refine qDE (fun wd X=>?_);have HQ:=Hd X;clear X;go_wp2_with fail
 go_ret
 obtain⟨Z,_,_⟩:=HS.o
 obtain⟨kc,a2,H,b1⟩:=HZ.o
 have X:=HQ.o;refine PaTo.mk1 ((a2.keeps X _ _ _ (fun _ _ e=>e)).mono (fun z A=>?_)) (((Z.mono (fun _ _ e=>e.elim):jae D W O).trans (kc.mono (fun z _ A=>(HD.o z A).1))).trans ((H.trans X).mono (fun _ _ e=>e.elim)));have a8:=bQ (b1 z A) X.size;rcases A with (A | A) | A
 ·exact .inl (HD.o z A).1
 ·exact .inr ⟨bJ Z.size A.1,a8⟩
 ·exact .inr ⟨bJ (bJ Z.size kc.size) A.1,a8⟩
theorem jve(q p:vB)(n:PA)(h:jal q p < q.size):∀ x t,(p.extract (jal q p) p.size).data.toList=x :: t->(setK (fun _=>.nil) (jau (q.extract (jal q p) q.size)) (jcj (q.extract (jal q p+1) q.size) n) x.toNat).isNil=true:=by
 obtain⟨K,O,Z,hb,e,o,A⟩:=jcQ q.data.toList p.data.toList
 have E:(q.extract (jal q p) q.size).data.toList=K:=by rw[jdR,e];rfl
 have H:(p.extract (jal q p) p.size).data.toList=O:=by rw[jdR,o];rfl
 have Q:(q.extract (jal q p) q.size).size≠0:=by rw[ja1];omega
 intro y t X
 obtain⟨x,s,J⟩:=jco Q
 unfold setK;rw[(jbL J).1,if_neg (jde (Ne.symm (A x s y t (by rw[<-E,J]) (by rw[<-H,X]))))];rfl
theorem jvc(W:vW)(D:Nat->Prop)(q:vB)(n:PA)(T:TypeId)(x:vV)(Dn:Nat->Prop)(b:Nat)(hB:Blk W b (.cells #[.string q,.iface T x] 236))(hv:PaAt n (.iface T x) Dn W)(hbn:¬ Dn b)(hD:∀ x,Dn x->D x/\x < W.heap.size)(p u:vB)(hq:jaB q=true)(hp:jaB p=true)(hqs:q.size<=900000)(hps:p.size<=900000)(hd:Dp n (900000 - q.size))(hnil:n.isNil=false)(hf:jal q p≠q.size) :
  vQ 239 #[.pointer (some ⟨b,0,none⟩),.string p,.string u] W (PaTo D W (jcj (p.extract 0 (jal q p)) (addK (.br ⟨#[]⟩ (setK (fun _=>.nil) (jau (q.extract (jal q p) q.size)) (jcj (q.extract (jal q p+1) q.size) n))) (p.extract (jal q p) p.size) u))):=by
 have q0:=hB.cell (i:=0) (v:=.string q) vF;have q1:=hB.cell (i:=1) (v:=.iface T x) vF;have Q0:=Hd q0;have Q1:=Hd q1;have HB:=Hd hB;have HV:=Hd hv;have HD:Hid (∀ z,Dn z->D z/\z < W.heap.size):=hD
 obtain⟨c1,c2⟩:=jfc q p
 have X:=fun w=>jfE w q p vO vO;have H:=jve q p n (show jal q p < q.size by omega)
 obtain⟨m,hm⟩:=vE (jal q p)
 rw[<-hm]at c1 c2 X hf H ⊢;have HC:=Hd X;have d4:=hB.lt;have b2:=Hd (show ¬ W.heap.size<=b from by omega);have b8:m < q.size:=vO
 have b9:jau (q.extract m q.size) < 16:=jdU (jbw hq _ _) (by rw[ja1];omega);have b3:=jxO b8;have b4:=Hd (bB b9 b3);have c0:=Hd (bB (jbw hp m p.size) (show (p.extract m p.size).size<=900000 by rw[ja1];omega));have a5:=Hd (bB hnil (bB (show (q.extract (m+1) q.size).size<=900000 by rw[ja1];omega) hd));have c3:Dp (jcj (q.extract (m+1) q.size) n) (900000 - m - 1):=jf6 (jch _ _ _ hd (by rw[ja1];omega)) (by rw[ja1];omega);have c4:Dp (addK (.br ⟨#[]⟩ (setK (fun _=>.nil) (jau (q.extract m q.size)) (jcj (q.extract (m+1) q.size) n))) (p.extract m p.size) u) (900000 - m):=jiu (jiw (jhR ⟨#[]⟩ _) vO c3 _) (by rw[ja1];omega) _;have c5:(addK (.br ⟨#[]⟩ (setK (fun _=>.nil) (jau (q.extract m q.size)) (jcj (q.extract (m+1) q.size) n))) (p.extract m p.size) u).isNil=false:=by rw[jcW];split <;> rfl
 have c6:=Hd (bB c4 c5);have d5:=Hd H;have a3:(p.extract 0 m).size<=900000:=by rw[cJ];omega
 have d6:=Hd a3;have d7:(m:Int)<=(q.size:Int):=vO
 have d8:(m:Int)<=(p.size:Int):=vO
 have d9:(m:Int) < (q.size:Int):=vO
 have e0:(m:Int)+1<=(q.size:Int):=vO
 have e1:((q[m]'b8).toNat:Int) < 16:=by rw[<-b3];omega
 have e2:((m:Int) ==(q.size:Int))=false:=by simp;omega
 clear hB hv hbn hD hq hp hd hf X d4 H b9 b3 c3 c4 c5 hnil hm a3;go_enter Tryz.func239,Tryz.ntmps239;go_wp2_with fail
 refine (HC.o _).mono ?_;rintro e w1 ⟨rfl,k,rfl⟩;go_wp2_with fail
 obtain⟨E,a6⟩:=vE W.heap.size
 obtain⟨W2,a7⟩:=vE ((W.drewN k).alloc (.cells #[.string ⟨#[]⟩,.nilIface,.nilIface,.nilIface,.nilIface,.nilIface,.nilIface,.nilIface,.nilIface,.nilIface,.nilIface,.nilIface,.nilIface,.nilIface,.nilIface,.nilIface,.nilIface] 240))
 have c7:Ext W W2:=by rw[a7];exact ((ExtR W).drewN k).alloc _
 have c8:BrAt ⟨#[]⟩ (fun _=>.nil) E (fun _=>.nilIface) (fun _ _=>False) (fun x=>x=E) W2:=by rw[a7,a6];exact jwD (Blk.new (W.drewN k) _)
 have c9:W.heap.size<=E:=by rw[a6];exact bL _
 have J:=Hd c7;have a8:=Hd c8;have a9:=Hd c9;rw[<-a7, <-a6];clear a6 a7 c7 c8 c9;refine jaC [0,1,2,3,4,5,6,7,8,9,10,11,12,13,14,15,16,17,19,20,18,21,22] [18,22] Ext (jae (fun z=>W.heap.size<=z)) ExtR ExtT (fun x y z h k=>jae.trans h k) (fun x y h=>h.mono (fun _ _ h=>h.elim)) vY vY vY ?_;iterate 2 refine vD ?_
 refine qDV _ ((.pointer (some ⟨b,0,none⟩))) rfl (fun w1 _=>by kernel_rfl) ?_;refine vS ?_
 refine vD ?_
 refine qDL ⟨b,0,none⟩ _ rfl (fun w1 h1=>jaE (fun w=>by kernel_rfl) (jam (jaa Q0.o J.o) (((jae.refl (fun z=>W.heap.size<=z) W2).drew).trans h1) (by exact b2.o))) ?_;refine vS ?_;iterate 3 refine vD ?_
 refine qDV _ ((.pointer (some ⟨b,0,none⟩))) rfl (fun w1 _=>by kernel_rfl) ?_;refine vS ?_
 refine vD ?_
 refine qDL ⟨b,0,none⟩ _ rfl (fun w1 h1=>jaE (fun w=>by kernel_rfl) (jam (jaa Q0.o J.o) (((jae.refl (fun z=>W.heap.size<=z) W2).drew).trans h1) (by exact b2.o))) ?_;refine vS ?_;iterate 4 refine vD ?_
 refine qDV _ ((.pointer (some ⟨b,0,none⟩))) rfl (fun w1 _=>by kernel_rfl) ?_;refine vS ?_
 refine vD ?_
 refine qDL ⟨b,1,none⟩ _ rfl (fun w1 h1=>jaE (fun w=>by kernel_rfl) (jam (jaa Q1.o J.o) (((jae.refl (fun z=>W.heap.size<=z) W2).drew).trans h1) (by exact b2.o))) ?_;refine vS ?_;refine qDV _ ((.pointer (some ⟨E,0,none⟩))) rfl (fun w1 _=>by kernel_rfl) ?_;refine vS ?_
 refine vD ?_
 refine qDH _ rfl (fun wb hb K hK=>?_);have kb:Ext W2 wb:=(jai _).trans hb;have kw:Ext W wb:=J.o.trans kb;refine jbK (jat (vX 235) vY) ((pj_c wb Dn (q.extract (m+1) q.size) n (.iface T x) ⟨HV.o.keeps kw _ _ _ (fun _ _ e=>e),fun z A=>bQ (HD.o z A).2 kw.size⟩ a5.o.1 (by have:=a5.o.2.1;omega) (jch _ _ _ a5.o.2.2 vO)).mono ?_);rintro e w3 ⟨v3,rfl,Z,O⟩
 refine⟨v3,rfl,hK _ _ (O.mono (fun _ _ e=>e.elim)) ?_⟩
 have HS:=Hd (bB kb (bB Z O));clear hK K hb kb Z O kw;refine vS ?_
 refine vD ?_
 refine qDH _ rfl (fun wc hc K hK=>?_)
 obtain⟨kb,Z,O⟩:=HS.o
 have b5:=Z.keeps hc _ _ _ (fun _ _ e=>e);have kc:Ext W2 wc:=(kb.trans O).trans hc
 obtain⟨T3,x3,rfl⟩:=b5.form (jdG a5.o.1)
 have a0:∀ z,Grow Dn wb w3 z->¬ z=E/\z < wc.heap.size:=fun z A=>by
  have h1:=a8.o.lt E rfl;have h2:=a9.o;have h3:=kb.size;have h4:=O.size;have h5:=hc.size;have h6:=J.o.size;rcases A with A | A
  ·have:=(HD.o z A).2;omega
  ·have:=A.1;have:=A.2;omega
 have hg:=(a8.o.keeps kc (fun _ _ e=>e)).give b4.o.1 b5 a0
 obtain⟨old,q7⟩:∃ v,wc.cell? ⟨E,1+jau (q.extract m q.size),none⟩=some v:=⟨_,(a8.o.keeps kc (fun _ _ e=>e)).blk.cellL (bA (by rw[jg5];have:=b4.o.1;omega))⟩
 have f7:wc.frozen? ⟨E,1+jau (q.extract m q.size),none⟩=false:=(a8.o.keeps kc (fun _ _ e=>e)).blk.frozen
 obtain⟨WW,a1⟩:=vE (wc.setCell ⟨E,1+jau (q.extract m q.size),none⟩ (.iface T3 x3))
 rw[<-a1]at hg;have Q:jae (fun z=>z=E) wc WW:=by rw[a1];exact jae.oneSet wc ⟨E,1+jau (q.extract m q.size),none⟩ (.iface T3 x3)
 have HG:=Hd (bB hg (bB Q (bB kc (bB a0 (show ∀ z,Grow Dn wb w3 z->D z\/W.heap.size<=z from fun z A=>A.elim (fun e=>.inl (HD.o z e).1) (fun e=>.inr (bJ (bJ J.o.size kb.size) e.1)))))));rw[b4.o.2]at q7 f7 a1;clear kb Z O b5 kc a0 hg hc;go_simp;rw[<-a1];refine hK _ _ (Q.mono (fun z _ e=>by have e:z=E:=e;rw[e];exact a9.o)) ?_;clear hK K q7 f7 a1 Q;refine qDE (fun wd hd=>?_)
 obtain⟨hg,Q,kc,a0,d0⟩:=HG.o
 have d1:=hg.keeps hd (fun _ _ e=>e);have HX:=Hd (bB d1 (show Ext W wd from((J.o.trans kc).trans' Q (fun z A e=>by have e:z=E:=e;have:=a9.o;omega)).trans hd));have HY:Hid (∀ z,(z=E\/Grow Dn wb w3 z)->D z\/W.heap.size<=z):=(fun z A=>A.elim (fun e=>.inr (by rw[e];exact a9.o)) (d0 z));clear hg Q kc a0 d0 d1 hd;go_wp2_with fail
 refine (jkv wd _ ⟨#[]⟩ _ E HX.o.1.pa (p.extract m p.size) u c0.o.1 c0.o.2 d5.o).mono ?_;rintro e w4 ⟨rfl,d2,b6⟩;have d3:=AddP.br d2 b6 HX.o.1.lt;have a4:jae D W w4:=(HX.o.2.mono (fun _ _ e=>e.elim)).trans' b6 (fun z A e=>by
  rcases HY.o z e with h | h
  ·exact h
  ·omega)
 have b0:=Hd (bB d3 a4);clear d2 b6 d3 a4;unfold brV;go_wp2_with fail
 refine (pj_c w4 _ (p.extract 0 m) _ (brV E) b0.o.1 c6.o.2 (by have:=d6.o;omega) (jch _ _ _ c6.o.1 vO)).mono ?_;rintro e w5 ⟨v5,rfl,b1,a2⟩;have HZ:=Hd (bB b1 a2);clear b1 a2;go_wp2_with fail
 go_ret
 obtain⟨b1,a2⟩:=HZ.o
 refine PaTo.mk1 (b1.mono (fun z A=>?_)) (b0.o.2.trans (a2.mono (fun _ _ e=>e.elim)));have b7:=jeM b0.o.1.lt a2 z A;rcases A with (A | A) | A
 ·rcases HY.o z A with h | h
  ·exact .inl h
  ·exact .inr ⟨h,b7⟩
 ·exact .inr ⟨bJ HX.o.2.size A.1,b7⟩
 ·exact .inr ⟨bJ b0.o.2.size A.1,b7⟩
end
def VaP:PA->Prop
 | .nil=>True
 | .no=>True
 | .leaf q _=>jaB q=true
 | .ext q n=>jaB q=true/\VaP n
 | .br _ ks=>∀ i,VaP (ks i)
theorem jrP:∀ (P:PA),CanP P->VaP P
 | .nil,h=>h.elim
 | .no,h=>h.elim
 | .leaf q v,h=>h.1
 | .ext q n,h=>⟨h.2.1,jrP n h.2.2.2⟩
 | .br v ks,h=>fun i=>by
  cases hn:(ks i).isNil with
  | true=>rw[jbF hn];trivial
  | false=>exact jrP (ks i) (h.2.1 i hn)
theorem jof:∀ (P:PA),VaP P->PutC P
 | .nil,_=>fun W T x D p u h _ _ _=>by cases h.at'
 | .no,_=>fun W T x D p u h _ _ _=>by
  have e:Value.iface T x=noV:=h.at';unfold noV at e;injection e with e1 e2;subst e1 e2;exact jte W D p u
 | .leaf q v,hv=>fun W T x D p u h E H o=>by
  obtain⟨b,e,h1,J⟩:=h.at'
  unfold jjs at e;injection e with e1 e2;subst e1 e2
  by_cases hpq:p=q
  ·subst hpq
   show Calls _ _ _ W (PaTo D W (putP (.leaf p v) p u));unfold putP;rw[if_pos rfl];exact jsN W D p v u b J
  ·exact jqO W D q v p u b J hpq hv H o E
 | .ext q n,hv=>fun W T x D p u h E H o=>by
  obtain⟨b,Z,x',O,e,h1,J,Q,h4,h5⟩:=h.at'
  unfold extV at e;injection e with e1 e2;subst e1 e2;have A:n.isNil=false:=by
   cases n with
   | nil=>cases Q
   | _=>rfl
  have K:∀ z,O z->D z/\z < W.heap.size:=fun z hz=>⟨h5 z hz,h.lt z (h5 z hz)⟩
  by_cases hf:jal q p=q.size
  ·have:=jxD W D q n Z x' O b J Q h4 K p u hv.1 H o.1 E (jch _ _ _ o.2 vO) (jof n hv.2) A hf
   show Calls _ _ _ W (PaTo D W (putP (.ext q n) p u));unfold putP;rw[if_pos hf,hf];exact this
  ·have:=jvc W D q n Z x' O b J Q h4 K p u hv.1 H o.1 E o.2 A hf
   show Calls _ _ _ W (PaTo D W (putP (.ext q n) p u));unfold putP;rw[if_neg hf];exact this
 | .br v ks,hv=>fun W T x D p u h E H o=>by
  obtain⟨b,vk,Dk,e,_⟩:=h.at'
  have e0:=e;unfold brV at e;injection e with e1 e2;subst e1 e2;show Calls _ _ _ W (PaTo D W (putP (.br v ks) p u));unfold putP
  by_cases h0:p.size=0
  ·rw[if_pos h0,jby h0]
   exact (joL W D v u ks b h).mono fun e w' h=>h.2
  ·rw[if_neg h0]
   cases hk:(ks (jau p)).isNil with
   | true =>
    rw[jbF hk];exact (joK W D v u ks b h p h0 H E hk).mono fun e w' h=>h.2
   | false =>
    have X:=o (jau p) hk;exact (juM W D v u ks b h p h0 H E hk (jch _ _ _ X.2 vO) (jof (ks (jau p)) (hv _))).mono fun e w' h=>h.2
section
attribute [local go_sem] Oper.semAt_some
def cutV(s p:vB):vV:=if preB p s then .tuple #[.string (s.extract p.size s.size),.bool true]else .tuple #[.string s,.bool false]
theorem jlY(w:vW)(s p:vB)(hs:s.size<=1000000)(hp:p.size<=1000000):vQ 241 #[.string s,.string p] w fun e w'=>e=.returned (cutV s p)/\w'=w:=by
 unfold cutV;cases hb:preB p s with
 | true =>
  have E:=jk7 hb;have H:(p.size:Int)<=(s.size:Int):=vO
  have A:=Hd hb;clear hb;unfold vQ;go_in;go_wp2_with fail
  refine (jpE w s p hs hp).mono ?_;rintro e w1 ⟨rfl,rfl⟩;rw[A.o];go_wp2_with fail
  go_ret2
  exact⟨rfl,rfl⟩
 | false =>
  have A:=Hd hb;clear hb;unfold vQ;go_in;go_wp2_with fail
  refine (jpE w s p hs hp).mono ?_;rintro e w1 ⟨rfl,rfl⟩;rw[A.o];go_wp2_with fail
  go_ret2
  exact⟨rfl,rfl⟩
theorem jim(w:vW)(s p:vB)(hs:s.size<=1000000)(hp:p.size<=1000000):vQ 240 #[.string s,.string p] w fun e w'=>e=.returned (cutV s p)/\w'=w:=by
 have H:=Hd (jlY w s p hs hp);unfold cutV at *;cases hb:preB p s with
 | true =>
  rw[hb,if_pos rfl]at H;rw[if_pos rfl];clear hb;unfold vQ;go_in;go_wp2_with fail
  refine H.o.mono ?_;rintro e w1 ⟨rfl,rfl⟩;go_wp2_with fail
  go_ret2
  exact⟨rfl,rfl⟩
 | false =>
  rw[hb,if_neg ff]at H;rw[if_neg ff];clear hb;unfold vQ;go_in;go_wp2_with fail
  refine H.o.mono ?_;rintro e w1 ⟨rfl,rfl⟩;go_wp2_with fail
  go_ret2
  exact⟨rfl,rfl⟩
def juo(P:PA):Prop:=∀ (W:vW) (T:TypeId) (x:vV) (D:Nat->Prop) (p:vB),PaO P (.iface T x) D W->p.size<=900000->jaB p=true->Dp P 900000 ->
 vQ (jfo P) #[x,.string p] W (PaTo D W (jbT P p))
theorem jvH(W:vW)(D:Nat->Prop)(p:vB):vQ 247 #[.agg #[],.string p] W (PaTo D W .no):=by
 unfold vQ;go_in;go_wp2_with fail
 go_ret;exact PaTo.mk1 rfl (((ExtR W).alloc _).mono (fun _ _ e=>e.elim))
theorem jxS(W:vW)(D:Nat->Prop)(q v p:vB)(b:Nat)(hB:Blk W b (.cells #[.string q,.string v] 233))(hD:D b):vQ 230 #[.pointer (some ⟨b,0,none⟩),.string p] W (PaTo D W (jbT (.leaf q v) p)):=by
 have J:=hB.cell (i:=0) (v:=.string q) vF;have E:=Hd hB;have H:=Hd hD;have A:jbT (.leaf q v) p=if p=q then .no else .leaf q v:=rfl
 rw[A];clear hB hD A
 by_cases hpq:p=q
 ·rw[if_pos hpq]
  have e:(p.toList == q.toList)=true:=by rw[jeQ];exact decide_eq_true hpq
  clear hpq;unfold vQ;go_in;go_wp2_with fail
  go_ret;exact PaTo.mk1 rfl (jae.refl _ W)
 ·rw[if_neg hpq]
  have e:(p.toList == q.toList)=false:=by rw[jeQ];exact decide_eq_false hpq
  clear hpq;unfold vQ;go_in;go_wp2_with fail
  go_ret;exact PaTo.mk1 ⟨b,rfl,.inl H.o,E.o⟩ (jae.refl _ W)
theorem jfF:∀ (P:PA) (p:vB),(jbT P p).isNil=false
 | .nil,_=>rfl
 | .no,_=>rfl
 | .leaf q v,p=>by
  unfold jbT;split <;> rfl
 | .ext q n,p=>by
  unfold jbT;split
  ·exact jdG (jfF n _)
  ·rfl
 | .br v ks,p=>by
  have o:∀ v ks,(jdt v ks).isNil=false:=by
   intro v ks;have A:∀ i∈idxK ks,(ks i).isNil=false:=fun i E=>by
    have:=(cP.1 E).2
    simpa using this
   unfold jdt;cases e:idxK ks with
   | nil =>
    show (if v.size=0 then PA.no else .leaf ⟨#[]⟩ v).isNil=false;split <;> rfl
   | cons i r =>
    cases r with
    | nil =>
     show (if v.size=0 then jcj ⟨#[UInt8.ofNat i]⟩ (ks i)else .br v ks).isNil=false;split
     ·exact jdG (A i (by rw[e];exact bG))
     ·rfl
    | cons j r=>rfl
  unfold jbT;split
  ·exact o _ _
  ·split
   ·rfl
   ·exact o _ _
theorem jva(W:vW)(D:Nat->Prop)(q:vB)(n:PA)(T:TypeId)(x:vV)(Dn:Nat->Prop)(b:Nat)(hB:Blk W b (.cells #[.string q,.iface T x] 236))(hDb:D b)(hv:PaAt n (.iface T x) Dn W)(hbn:¬ Dn b)(hD:∀ x,Dn x->D x/\x < W.heap.size)(p:vB)(hp:jaB p=true)(hqs:q.size<=900000)(hps:p.size<=900000)(hf:preB q p=false):vQ 236 #[.pointer (some ⟨b,0,none⟩),.string p] W (PaTo D W (.ext q n)):=by
 have H:=hB.cell (i:=0) (v:=.string q) vF;have J:=hB.cell (i:=1) (v:=.iface T x) vF;have Q0:=Hd H;have Q1:=Hd J;have K:=Hd hB;have O:=Hd hv;have Q:Hid (∀ z,Dn z->D z/\z < W.heap.size):=hD;have E:=Hd (bB hDb hbn);have A:=jim W p q vO vO;unfold cutV at A;rw[hf,if_neg ff]at A;have X:=Hd A;clear hB hDb hv hbn hD hp hf A;unfold vQ;go_in;go_wp2_with fail
 refine X.o.mono ?_;rintro e w1 ⟨rfl,rfl⟩;go_wp2_with fail
 go_ret;exact PaTo.mk1 ⟨b,T,x,Dn,rfl,.inl E.o.1,K.o,O.o,E.o.2,fun z Z=>.inl (Q.o z Z).1⟩ (jae.refl _ _)
theorem ju9(W:vW)(D:Nat->Prop)(q:vB)(n:PA)(T:TypeId)(x:vV)(Dn:Nat->Prop)(b:Nat)(hB:Blk W b (.cells #[.string q,.iface T x] 236))(hDb:D b)(hv:PaAt n (.iface T x) Dn W)(hbn:¬ Dn b)(hD:∀ x,Dn x->D x/\x < W.heap.size)(p:vB)(hp:jaB p=true)(hqs:q.size<=900000)(hps:p.size<=900000)(Q:Dp n 900000)(hk:juo n)(hf:preB q p=true) :
  vQ 236 #[.pointer (some ⟨b,0,none⟩),.string p] W (PaTo D W (jcj q (jbT n (p.extract q.size p.size)))):=by
 have q0:=hB.cell (i:=0) (v:=.string q) vF;have q1:=hB.cell (i:=1) (v:=.iface T x) vF;have Q0:=Hd q0;have Q1:=Hd q1;have HB:=Hd hB;have HV:=Hd hv;have HD:Hid (∀ z,Dn z->D z/\z < W.heap.size):=hD;have Z:=jim W p q vO vO;unfold cutV at Z;rw[hf,if_pos rfl]at Z;have HC:=Hd Z;have a8:=hB.lt;have a4:=Hd (show ¬(Dn b\/W.heap.size<=b)from fun e=>e.elim hbn (fun e=>by omega));have a1:jaB (p.extract q.size p.size)=true:=jbw hp _ _;have a5:(p.extract q.size p.size).size<=900000:=by rw[ja1];omega
 have HM:=Hd hv.meth;have a0:=Hd (show ∀ J,Ext W J->vQ (jfo n) #[x,.string (p.extract q.size p.size)] J (PaTo Dn J (jbT n (p.extract q.size p.size)))from fun J e=>hk J T x Dn _ ⟨hv.keeps e _ _ _ (fun _ _ e=>e),fun z A=>bQ (hD z A).2 e.size⟩ a5 a1 Q);have a9:Hid (Dp (jbT n (p.extract q.size p.size)) 1000000):=(jch _ _ _ (jiv n 900000 _ Q) vO);clear hB hDb hv hbn hD hp Q hk hf a1 a5 Z a8;go_enter Tryz.func236,Tryz.ntmps236;go_wp2_with fail
 refine HC.o.mono ?_;rintro e Wk ⟨rfl,rfl⟩;go_wp2_with fail
 refine jaC [0,1,2,3,4,5,6,7,8,9,10,11] [9,10] Ext (jae (fun z=>Dn z\/Wk.heap.size<=z)) ExtR ExtT (fun x y z h k=>jae.trans h k) (fun x y h=>h.mono (fun _ _ h=>h.elim)) vY vY vY ?_
 refine vD ?_
 refine qDV _ ((.pointer (some ⟨b,0,none⟩))) rfl (fun w1 _=>by kernel_rfl) ?_;refine vS ?_
 refine vD ?_
 refine qDL ⟨b,0,none⟩ _ rfl (fun w1 h1=>jaE (fun w=>by kernel_rfl) (jam Q0.o (((jae.refl (fun z=>Dn z\/Wk.heap.size<=z) Wk).drew).trans h1) (by exact a4.o))) ?_;refine vS ?_
 refine vD ?_
 refine qDV _ ((.pointer (some ⟨b,0,none⟩))) rfl (fun w1 _=>by kernel_rfl) ?_;refine vS ?_
 refine vD ?_
 refine qDL ⟨b,1,none⟩ _ rfl (fun w1 h1=>jaE (fun w=>by kernel_rfl) (jam Q1.o (((jae.refl (fun z=>Dn z\/Wk.heap.size<=z) Wk).drew).trans h1) (by exact a4.o))) ?_;refine vS ?_
 refine vD ?_
 refine qDH _ rfl (fun J hb K hK=>?_);have X:Ext Wk J:=((ExtR Wk).drew).trans hb;refine jbK (jcN (f:=jfo n) (vs:=#[.string (p.extract q.size p.size)]) rfl (HM.o.drop _) (jfG _) vY) ?_;refine (a0.o J X).mono ?_;rintro e w2 ⟨v2,rfl,O,E⟩
 refine⟨v2,rfl,hK _ _ (E.mono (fun z _ A=>.inl A)) ?_⟩
 have HS:=Hd (bB X (bB O E));clear hK K hb X O E;refine vS ?_;refine qDH _ rfl (fun wc hc K hK=>?_)
 obtain⟨X,O,E⟩:=HS.o
 have kc:jae Dn J wc:=E.trans (hc.mono (fun _ _ e=>e.elim));have a6:PaAt (jbT n (p.extract q.size p.size)) v2 (Grow Dn J wc) wc:=(O.keeps hc _ _ _ (fun _ _ e=>e)).mono (fun z A=>A.imp id (fun e=>⟨e.1,bQ e.2 hc.size⟩));have a3:=PaTo.own a6 kc (fun z A=>bQ (HD.o z A).2 X.size);refine jbK (jat (vX 235) vY) ((pj_c wc _ q _ v2 a3 (jfF _ _) vO a9.o).mono ?_);rintro e w5 ⟨v5,rfl,a2,H⟩
 refine⟨v5,rfl,hK _ _ (H.mono (fun _ _ e=>e.elim)) ?_⟩
 have HZ:=Hd (bB kc (bB a2 (bB H (jeM a3.lt H))));clear hK K hc X O E kc a6 a3 a2 H;refine vS ?_
 refine vD ?_
 refine qDE (fun wd Q=>?_);have HQ:=Hd Q;clear Q;go_wp2_with fail
 go_ret
 obtain⟨X,_,_⟩:=HS.o
 obtain⟨kc,a2,H,b0⟩:=HZ.o
 have Q:=HQ.o;refine PaTo.mk1 ((a2.keeps Q _ _ _ (fun _ _ e=>e)).mono (fun z A=>?_)) (((X.mono (fun _ _ e=>e.elim):jae D Wk J).trans (kc.mono (fun z _ A=>(HD.o z A).1))).trans ((H.trans Q).mono (fun _ _ e=>e.elim)));have a7:=bQ (b0 z A) Q.size;rcases A with (A | A) | A
 ·exact .inl (HD.o z A).1
 ·exact .inr ⟨bJ X.size A.1,a7⟩
 ·exact .inr ⟨bJ (bJ X.size kc.size) A.1,a7⟩
theorem Tryz.uKids:Tryz.prog.underlying 238=some (.array 16 122):=vY
theorem Tryz.iKids:(Tryz.prog.info? 238).map (·.size)=some 16:=vY
theorem Tryz.partOne:(Tryz.prog.info? 122).map (·.size)=some 1:=vY
theorem Tryz.partAgg(w:vW):(isAgg 122).run Tryz.prog w=.ok false w:=vY
def jqH(vk:Nat->vV):List vV:=(List.range 16).map vk
theorem jvv(vk:Nat->vV){i:Nat}(h:i < 16):(jqH vk)[i]?=some (vk i):=by
 unfold jqH;rw[bX,dW h];rfl
theorem jbg{W:vW}{b:Nat}{u:vB}{vk:Nat->vV}(hB:Blk W b (.cells (brC u vk).toArray 240)):(Instr.loadAt 238 (.pointer (some ⟨b,1,none⟩))).run Tryz.prog W=.ok (.agg (jqH vk).toArray) W:=by
 have e:W.rangeAt b 1 (jqH vk):=fun j v A=>hB.cellL (by rw[gN];exact A);have o:=run_loadVar_mid (P:=Tryz.prog) W b 1 238 _ _ e Tryz.uKids rfl (by unfold jqH;simp only[cC,gS];exact Tryz.iKids);simp[Instr.loadAt,Instr.sureAddr,cA,Result.andThen,o]
theorem jeV(vk:Nat->vV){i:Nat}(h:i < 16)(w:vW):(Instr.index 238 (.agg (jqH vk).toArray) (.int .i64 (i:Int))).run Tryz.prog w=.ok (vk i) w:=
 jeU Tryz.uKids Tryz.partOne Tryz.partAgg _ i h _ (jvv vk h) w
theorem jdz(T:TypeId)(x:vV)(w:vW):(binOp .neq 122 (.iface T x) .nilIface).run Tryz.prog w=.ok (.bool true) w:=vY
theorem jkT(w:vW):(binOp .neq 122 .nilIface .nilIface).run Tryz.prog w=.ok (.bool false) w:=vY
def idxN(ks:Nat->PA)(k:Nat):List Nat:=(List.range k).filter fun i => !(ks i).isNil
theorem jfl(ks:Nat->PA)(k:Nat):idxN ks (k+1)=idxN ks k++(if (ks k).isNil then []else [k]):=by
 unfold idxN;rw[fR,gO]
 congr 1
 cases h:(ks k).isNil <;> simp[h]
theorem PaAt.kid{P:PA}{v:vV}{D:Nat->Prop}{W:vW}(h:PaAt P v D W):(P.isNil=true/\v=.nilIface)\/(P.isNil=false/\∃ T x,v=.iface T x):=by
 cases hn:P.isNil with
 | true=>rw[jbF hn]at h;exact .inl ⟨rfl,h⟩
 | false=>exact .inr ⟨rfl,h.form hn⟩
def jrh(ks:Nat->PA)(W:vW)(cv ov iv:vV)(wr:vW):Prop:=∃ (k c o:Nat),k<=16/\iv=.int .i64 (k:Int)/\cv=.int .i64 (c:Int)/\ov=.int .i64 (o:Int)/\wr=W/\c=(idxN ks k).length/\o=(idxN ks k).getLast?.getD 0
theorem jqL(wr:vW)(D:Nat->Prop)(v:vB)(ks:Nat->PA)(b:Nat)(h:PaO (.br v ks) (brV b) D wr)(hi:idxK ks=[])(hv:v.size=0) :
  vQ 246 #[.pointer (some ⟨b,0,none⟩)] wr (PaTo D wr .no):=by
 obtain⟨vk,Dk,hb⟩:=h.br
 have K:=jbg hb.blk;have q0:=hb.blk.cellL (i:=0) (v:=.string v) vF;have H:=Hd hb;have a1:(⟨#[]⟩:vB).toList.isEmpty=true:=by rw[bR];rfl
 obtain⟨W,hW⟩:=vE wr
 have X:=jby hv;subst X;have HI:=Hd hi;clear h hb hi hv;rw[<-hW]at K q0 H ⊢;clear hW;go_enter Tryz.func246,Tryz.ntmps246;go_wp2_with (refine jaf 238 (.tmp 9) rfl rfl _ _ rfl K ?_)
 go_loopw [3,4,11] (fun cv ov Z wr=>jrh ks W cv ov Z wr) (fun _ _ Z _=>16 - (intOf Z).toNat)
 case atStart=>exact⟨0,0,0,by omega,rfl,rfl,rfl,rfl,rfl,rfl⟩
 case round =>
  obtain⟨k,c,o,hk,rfl,rfl,rfl,rfl,J,O⟩:=hrel
  by_cases hlt:k < 16
  ·have Q:=jeV vk hlt
   have e:=jfl ks k;have a2:c<=16:=by rw[J];exact bJ (dF _ _) (by rw[gS];omega)
   have A:=Hd (bB J O);rcases (H.o.kid k hlt).1.kid with⟨hn,hv⟩ |⟨hn,T,x,hv⟩
   ·rw[hn,if_pos rfl,bZ]at e
    rw[hv]at Q;have E:=Hd e;clear e J O hn hv;go_wp2;go_roundw
    case rel=>exact⟨k+1,c,o,by omega,by go_num,rfl,rfl,rfl,by rw[E.o];exact A.o.1,by rw[E.o];exact A.o.2⟩
    case measure=>exact vJ
   ·rw[hn,if_neg ff]at e
    rw[hv]at Q;have hq:=jdz T x;have E:=Hd e;clear e J O hn hv;go_wp2;go_roundw
    case rel=>exact⟨k+1,c+1,k,by omega,by go_num,by go_num,rfl,rfl,by rw[E.o,bC, <-A.o.1];rfl,by rw[E.o];simp⟩
    case measure=>exact vJ
  ·obtain rfl:k=16:=vO
   have A:=Hd (bB J O);clear J O;have a0:c=0:=by rw[A.o.1];show (idxK ks).length=0;rw[HI.o];rfl
   subst a0;go_wp2_with fail
   go_ret;exact PaTo.mk1 rfl (jae.refl _ _)
theorem jqK(wr:vW)(D:Nat->Prop)(v:vB)(ks:Nat->PA)(b:Nat)(h:PaO (.br v ks) (brV b) D wr)(hi:idxK ks=[])(hv:v.size≠0) :
  vQ 246 #[.pointer (some ⟨b,0,none⟩)] wr (PaTo D wr (.leaf ⟨#[]⟩ v)):=by
 obtain⟨vk,Dk,hb⟩:=h.br
 have O:=jbg hb.blk;have q0:=hb.blk.cellL (i:=0) (v:=.string v) vF;have H:=Hd hb;have a1:(⟨#[]⟩:vB).toList.isEmpty=true:=by rw[bR];rfl
 have a2:=jc5 hv;clear hv
 obtain⟨W,hW⟩:=vE wr
 have HI:=Hd hi;rw[<-hW]at O q0 H ⊢;clear h hb hi hW;go_enter Tryz.func246,Tryz.ntmps246;go_wp2_with (refine jaf 238 (.tmp 9) rfl rfl _ _ rfl O ?_)
 go_loopw [3,4,11] (fun cv ov Z wr=>jrh ks W cv ov Z wr) (fun _ _ Z _=>16 - (intOf Z).toNat)
 case atStart=>exact⟨0,0,0,by omega,rfl,rfl,rfl,rfl,rfl,rfl⟩
 case round =>
  obtain⟨k,c,o,hk,rfl,rfl,rfl,rfl,K,Q⟩:=hrel
  by_cases hlt:k < 16
  ·have X:=jeV vk hlt
   have A:=jfl ks k;have a3:c<=16:=by rw[K];exact bJ (dF _ _) (by rw[gS];omega)
   have E:=Hd (bB K Q);rcases (H.o.kid k hlt).1.kid with⟨hn,hv⟩ |⟨hn,T,x,hv⟩
   ·rw[hn,if_pos rfl,bZ]at A
    rw[hv]at X;have J:=Hd A;clear A K Q hn hv;go_wp2;go_roundw
    case rel=>exact⟨k+1,c,o,by omega,by go_num,rfl,rfl,rfl,by rw[J.o];exact E.o.1,by rw[J.o];exact E.o.2⟩
    case measure=>exact vJ
   ·rw[hn,if_neg ff]at A
    rw[hv]at X;have hq:=jdz T x;have J:=Hd A;clear A K Q hn hv;go_wp2;go_roundw
    case rel=>exact⟨k+1,c+1,k,by omega,by go_num,by go_num,rfl,rfl,by rw[J.o,bC, <-E.o.1];rfl,by rw[J.o];simp⟩
    case measure=>exact vJ
  ·obtain rfl:k=16:=vO
   have E:=Hd (bB K Q);clear K Q;have a0:c=0:=by rw[E.o.1];show (idxK ks).length=0;rw[HI.o];rfl
   subst a0;go_wp2_with fail
   go_ret;have hB:=Blk.new wr (.cells #[.string ⟨#[]⟩,.string v] 233);exact PaTo.mk1 ⟨_,rfl,.inr ⟨bL _,hB.lt⟩,hB⟩ (((ExtR wr).alloc _).mono (fun _ _ e=>e.elim))
theorem jn7(wr:vW)(D:Nat->Prop)(v:vB)(ks:Nat->PA)(b:Nat)(h:PaO (.br v ks) (brV b) D wr)(i:Nat)(hi:idxK ks=[i])(hv:v.size≠0) :
  vQ 246 #[.pointer (some ⟨b,0,none⟩)] wr (PaTo D wr (.br v ks)):=by
 obtain⟨vk,Dk,hb⟩:=h.br
 have K:=jbg hb.blk;have q0:=hb.blk.cellL (i:=0) (v:=.string v) vF;have H:=Hd hb;have a0:(⟨#[]⟩:vB).toList.isEmpty=true:=by rw[bR];rfl
 have a1:=jc5 hv;clear hv
 obtain⟨W,hW⟩:=vE wr
 have HI:=Hd hi;rw[<-hW]at K q0 H ⊢;clear h hb hi hW;go_enter Tryz.func246,Tryz.ntmps246;go_wp2_with (refine jaf 238 (.tmp 9) rfl rfl _ _ rfl K ?_)
 go_loopw [3,4,11] (fun cv ov X wr=>jrh ks W cv ov X wr) (fun _ _ X _=>16 - (intOf X).toNat)
 case atStart=>exact⟨0,0,0,by omega,rfl,rfl,rfl,rfl,rfl,rfl⟩
 case round =>
  obtain⟨k,c,o,hk,rfl,rfl,rfl,rfl,J,O⟩:=hrel
  by_cases hlt:k < 16
  ·have Q:=jeV vk hlt
   have e:=jfl ks k;have a2:c<=16:=by rw[J];exact bJ (dF _ _) (by rw[gS];omega)
   have A:=Hd (bB J O);rcases (H.o.kid k hlt).1.kid with⟨hn,hv⟩ |⟨hn,T,x,hv⟩
   ·rw[hn,if_pos rfl,bZ]at e
    rw[hv]at Q;have E:=Hd e;clear e J O hn hv;go_wp2;go_roundw
    case rel=>exact⟨k+1,c,o,by omega,by go_num,rfl,rfl,rfl,by rw[E.o];exact A.o.1,by rw[E.o];exact A.o.2⟩
    case measure=>exact vJ
   ·rw[hn,if_neg ff]at e
    rw[hv]at Q;have hq:=jdz T x;have E:=Hd e;clear e J O hn hv;go_wp2;go_roundw
    case rel=>exact⟨k+1,c+1,k,by omega,by go_num,by go_num,rfl,rfl,by rw[E.o,bC, <-A.o.1];rfl,by rw[E.o];simp⟩
    case measure=>exact vJ
  ·obtain rfl:k=16:=vO
   have A:=Hd (bB J O);clear J O;have Z:c=1:=by rw[A.o.1];show (idxK ks).length=1;rw[HI.o];rfl
   subst Z;go_wp2_with fail
   go_ret;exact PaTo.mk1 (H.o.pa.at'.mono (fun x hx=>.inl hx)) (jae.refl _ _)
theorem jn8(wr:vW)(D:Nat->Prop)(v:vB)(ks:Nat->PA)(b:Nat)(h:PaO (.br v ks) (brV b) D wr)(hi:2<=(idxK ks).length) :
  vQ 246 #[.pointer (some ⟨b,0,none⟩)] wr (PaTo D wr (.br v ks)):=by
 obtain⟨vk,Dk,hb⟩:=h.br
 have K:=jbg hb.blk;have q0:=hb.blk.cellL (i:=0) (v:=.string v) vF;have H:=Hd hb;have a0:(⟨#[]⟩:vB).toList.isEmpty=true:=by rw[bR];rfl
 obtain⟨W,hW⟩:=vE wr
 have HI:=Hd hi;rw[<-hW]at K q0 H ⊢;clear h hb hi hW;go_enter Tryz.func246,Tryz.ntmps246;go_wp2_with (refine jaf 238 (.tmp 9) rfl rfl _ _ rfl K ?_)
 go_loopw [3,4,11] (fun cv ov X wr=>jrh ks W cv ov X wr) (fun _ _ X _=>16 - (intOf X).toNat)
 case atStart=>exact⟨0,0,0,by omega,rfl,rfl,rfl,rfl,rfl,rfl⟩
 case round =>
  obtain⟨k,c,o,hk,rfl,rfl,rfl,rfl,J,O⟩:=hrel
  by_cases hlt:k < 16
  ·have Q:=jeV vk hlt
   have e:=jfl ks k;have a1:c<=16:=by rw[J];exact bJ (dF _ _) (by rw[gS];omega)
   have A:=Hd (bB J O);rcases (H.o.kid k hlt).1.kid with⟨hn,hv⟩ |⟨hn,T,x,hv⟩
   ·rw[hn,if_pos rfl,bZ]at e
    rw[hv]at Q;have E:=Hd e;clear e J O hn hv;go_wp2;go_roundw
    case rel=>exact⟨k+1,c,o,by omega,by go_num,rfl,rfl,rfl,by rw[E.o];exact A.o.1,by rw[E.o];exact A.o.2⟩
    case measure=>exact vJ
   ·rw[hn,if_neg ff]at e
    rw[hv]at Q;have hq:=jdz T x;have E:=Hd e;clear e J O hn hv;go_wp2;go_roundw
    case rel=>exact⟨k+1,c+1,k,by omega,by go_num,by go_num,rfl,rfl,by rw[E.o,bC, <-A.o.1];rfl,by rw[E.o];simp⟩
    case measure=>exact vJ
  ·obtain rfl:k=16:=vO
   have A:=Hd (bB J O);clear J O;have Z:2<=c:=by rw[A.o.1];exact HI.o
   have g0:((c:Int) == 0)=false:=by simp;omega
   have g1:((c:Int) == 1)=false:=by simp;omega
   clear Z;go_wp2_with fail
   go_ret;exact PaTo.mk1 (H.o.pa.at'.mono (fun x hx=>.inl hx)) (jae.refl _ _)
theorem jsG(wr:vW)(D:Nat->Prop)(v:vB)(ks:Nat->PA)(b:Nat)(h:PaO (.br v ks) (brV b) D wr)(i:Nat)(hi:idxK ks=[i])(hv:v.size=0)(hd:Dp (.br v ks) 900000) :
  vQ 246 #[.pointer (some ⟨b,0,none⟩)] wr (PaTo D wr (jcj (nib1 i) (ks i))):=by
 obtain⟨vk,Dk,hb⟩:=h.br
 have a3:=jbg hb.blk;have q0:=hb.blk.cellL (i:=0) (v:=.string v) vF;have H:=Hd hb;have b4:(⟨#[]⟩:vB).toList.isEmpty=true:=by rw[bR];rfl
 have a8:=jby hv;subst a8;have a9:=Hd hd;clear hv hd
 obtain⟨W,hW⟩:=vE wr
 have HI:=Hd hi;rw[<-hW]at a3 q0 H ⊢;clear h hb hi hW;go_enter Tryz.func246,Tryz.ntmps246;go_wp2_with (refine jaf 238 (.tmp 9) rfl rfl _ _ rfl a3 ?_)
 go_loopw [3,4,11] (fun cv ov iv wr=>jrh ks W cv ov iv wr) (fun _ _ iv _=>16 - (intOf iv).toNat)
 case atStart=>exact⟨0,0,0,by omega,rfl,rfl,rfl,rfl,rfl,rfl⟩
 case round =>
  obtain⟨k,c,o,hk,rfl,rfl,rfl,rfl,hc,ho⟩:=hrel
  by_cases hlt:k < 16
  ·have a7:=jeV vk hlt
   have J:=jfl ks k;have b5:c<=16:=by rw[hc];exact bJ (dF _ _) (by rw[gS];omega)
   have O:=Hd (bB hc ho);rcases (H.o.kid k hlt).1.kid with⟨hn,hv⟩ |⟨hn,T,x,hv⟩
   ·rw[hn,if_pos rfl,bZ]at J
    rw[hv]at a7;have Q:=Hd J;clear J hc ho hn hv;go_wp2;go_roundw
    case rel=>exact⟨k+1,c,o,by omega,by go_num,rfl,rfl,rfl,by rw[Q.o];exact O.o.1,by rw[Q.o];exact O.o.2⟩
    case measure=>exact vJ
   ·rw[hn,if_neg ff]at J
    rw[hv]at a7;have hq:=jdz T x;have Q:=Hd J;clear J hc ho hn hv;go_wp2;go_roundw
    case rel=>exact⟨k+1,c+1,k,by omega,by go_num,by go_num,rfl,rfl,by rw[Q.o,bC, <-O.o.1];rfl,by rw[Q.o];simp⟩
    case measure=>exact vJ
  ·obtain rfl:k=16:=vO
   have O:=Hd (bB hc ho);clear hc ho;have b0:c=1:=by rw[O.o.1];show (idxK ks).length=1;rw[HI.o];rfl
   have a4:o=i:=by rw[O.o.2];show (idxK ks).getLast?.getD 0=i;rw[HI.o];rfl
   subst b0;have a0:i∈idxK ks:=by rw[HI.o];exact bG
   have A:i < 16:=fA.1 (cP.1 a0).1;have X:(ks i).isNil=false:=by have:=(cP.1 a0).2;simpa using this
   rw[<-a4]at a0 A X;have b1:=Hd a4;have E:=H.o.kid o A
   obtain⟨T,x,a5⟩:=E.1.form X
   have qk:=H.o.blk.cellL (jeH ⟨#[]⟩ vk A);rw[a5]at qk;have QK:=Hd qk;have a1:=Hd (show PaAt (ks o) (.iface T x) (Dk o) wr/\(∀ z,Dk o z->z < wr.heap.size)/\(ks o).isNil=false/\Dp (ks o) 1000000 from⟨by rw[<-a5];exact E.1,fun z hz=>H.o.lt z (E.2.2 z hz),X,jch _ _ _ (a9.o o X).2 vO⟩);have b2:=Hd E.2.2;have a6:o < 16:=A;have c1:(o:Int) < 16:=vO
   have c2:(o:Int) < 256:=vO
   clear a0 A X E a5 qk a4 a3;go_wp2_with fail
   refine jag [0,1,4,5,6,7,8,9,2,3,10,11] (Ext) ExtR ExtT vY vY vY ?_;iterate 4 refine vK ?_
   refine jcv _ ((.pointer (some ⟨b,0,none⟩))) rfl vY rfl (fun w1 _=>by kernel_rfl) ?_;refine vS ?_;iterate 2 refine vK ?_
   refine qKL ⟨b,1+o,none⟩ _ rfl (fun w1 h1=>jaE (fun w=>by kernel_rfl) (jaa (jaa QK.o (jai _)) h1)) ?_;refine vS ?_;refine jeu _ rfl vY rfl (fun w2 he K hK=>?_);have b3:=Hd (show Ext wr w2 from(jai _).trans he);clear he;go_simp;refine hK _ _ ((jae.refl _ w2).alloc _) ?_;clear hK K;refine jcv _ (.string (nib1 o)) rfl vY rfl (fun w3 h3=>jkG vY h3 (fun e=>e) a6) ?_;refine vS ?_;refine jeu _ rfl vY rfl (fun wc hc K hK=>?_);have kc:Ext wr wc:=(b3.o.alloc _).trans hc;refine jbK (jat (vX 235) vY) ((pj_c wc (Dk o) (nib1 o) (ks o) (.iface T x) ⟨a1.o.1.keeps kc _ _ _ (fun _ _ e=>e),fun z hz=>bQ (a1.o.2.1 z hz) kc.size⟩ a1.o.2.2.1 (by show 1<=_;omega) a1.o.2.2.2).mono ?_);rintro e w5 ⟨v5,rfl,a2,Z⟩
   refine⟨v5,rfl,hK _ _ Z ?_⟩
   have HZ:=Hd (bB kc (bB a2 Z));clear hK K hc kc a2 Z;refine vS ?_
   refine vK ?_
   refine qKE (fun wd hd=>?_);have HQ:=Hd hd;clear hd;go_wp2_with fail
   go_ret
   obtain⟨kc,a2,Z⟩:=HZ.o
   have hd:=HQ.o;rw[<-b1.o];refine PaTo.mk1 ((a2.keeps hd _ _ _ (fun _ _ e=>e)).mono (fun z hz=>?_)) (((kc.trans Z).trans hd).mono (fun _ _ e=>e.elim));rcases hz with hz | hz
   ·exact .inl (b2.o z hz)
   ·exact .inr ⟨bJ kc.size hz.1,bQ hz.2 hd.size⟩
theorem jn6(W:vW)(D:Nat->Prop)(v:vB)(ks:Nat->PA)(b:Nat)(h:PaO (.br v ks) (brV b) D W)(hd:Dp (.br v ks) 900000) :
  vQ 246 #[.pointer (some ⟨b,0,none⟩)] W (PaTo D W (jdt v ks)):=by
 unfold jdt;cases hi:idxK ks with
 | nil =>
  show Calls _ _ _ W (PaTo D W (if v.size=0 then PA.no else .leaf ⟨#[]⟩ v))
  by_cases h0:v.size=0
  ·rw[if_pos h0];exact jqL W D v ks b h hi h0
  ·rw[if_neg h0];exact jqK W D v ks b h hi h0
 | cons i r =>
  cases r with
  | nil =>
   show Calls _ _ _ W (PaTo D W (if v.size=0 then jcj ⟨#[UInt8.ofNat i]⟩ (ks i)else .br v ks))
   by_cases h0:v.size=0
   ·rw[if_pos h0];exact jsG W D v ks b h i hi h0 hd
   ·rw[if_neg h0];exact jn7 W D v ks b h i hi h0
  | cons j r=>exact jn8 W D v ks b h (by rw[hi];simp)
theorem jrC(W:vW)(D:Nat->Prop)(v:vB)(ks:Nat->PA)(b:Nat)(h:PaO (.br v ks) (brV b) D W)(hd:Dp (.br v ks) 900000):vQ 243 #[.pointer (some ⟨b,0,none⟩),.string ⟨#[]⟩] W (PaTo D W (jdt ⟨#[]⟩ ks)):=by
 obtain⟨vk,Dk,hb⟩:=h.br
 have q0:=hb.blk.cellL (i:=0) (v:=.string v) vF;have f0:W.frozen? ⟨b,0,none⟩=false:=hb.blk.frozen;have H:=Hd hb;have Z:Hid (Dp (.br ⟨#[]⟩ ks) 900000):=hd;have a0:(⟨#[]⟩:vB).toList.isEmpty=true:=by rw[bR];rfl
 clear h hb hd;unfold vQ;go_in;go_wp2_with fail
 obtain⟨X,J⟩:=vE (W.setCell ⟨b,0,none⟩ (.string ⟨#[]⟩))
 have O:jae D W X:=by rw[J];exact (jae.oneSet W ⟨b,0,none⟩ (.string ⟨#[]⟩)).mono (fun x _ e=>by have e:x=b:=e;rw[e];exact H.o.mem)
 have K:=H.o.val ⟨#[]⟩;rw[<-J]at K ⊢;have Q:=Hd (bB K O);clear K O J;refine (jn6 X D ⟨#[]⟩ ks b Q.o.1.pa Z.o).mono ?_;rintro e w2 ⟨v2,rfl,A,E⟩;have HZ:=Hd (bB A E);clear A E;go_wp2_with fail
 go_ret
 obtain⟨A,E⟩:=HZ.o
 exact PaTo.mk1 (A.mono (fun x hx=>hx.imp id (fun e=>⟨bJ Q.o.2.size e.1,e.2⟩))) (Q.o.2.trans E)
theorem juE(W:vW)(D:Nat->Prop)(v:vB)(ks:Nat->PA)(b:Nat)(h:PaO (.br v ks) (brV b) D W)(p:vB)(h0:p.size≠0)(hp:jaB p=true)(hs:p.size<=900000)(hn:(ks (jau p)).isNil=true):vQ 243 #[.pointer (some ⟨b,0,none⟩),.string p] W (PaTo D W (.br v ks)):=by
 obtain⟨X,Dk,hb⟩:=h.br
 obtain⟨y,t,K⟩:=jco h0
 obtain⟨Z,e2⟩:=jbL K
 have e:=jdU hp h0
 obtain⟨g0,E⟩:=jgy K
 have a1:=jc5 h0;have H:=jcz hp;have O:(jbC p).size<=900000:=by unfold jbC;rw[ja1];omega
 have Q:jau p=(p[0]'g0).toNat:=by rw[Z,E]
 have A:=hb.kid (jau p) e;have J:X (jau p)=.nilIface:=by have:=A.1;rw[jbF hn]at this;exact this
 have q1:=hb.blk.cellL (jeH v X e);rw[J]at q1;have HB:=Hd hb;have a2:=Hd Q;have a0:=Hd e;have c1:(0:Int) < (p.size:Int):=vO
 have c2:((p[0]'g0).toNat:Int) < 16:=vO
 have c3:(1:Int)<=(p.size:Int):=vO
 rw[Q]at q1;have hq:=jzO;clear h J K Z e2 h0 hp hn E H O e Q hb A;unfold vQ;go_in;go_wp2_with fail
 go_ret;exact PaTo.mk1 (HB.o.pa.at'.mono (fun x hx=>.inl hx)) (jae.refl _ _)
theorem jtq{P:PA}{T:TypeId}{x:vV}{D:Nat->Prop}{W:vW}(h:PaAt P (.iface T x) D W)(hn:P.isNo=false)(w:vW):(Instr.typeAssert (.iface T x) 122 242 true).run Tryz.prog w=.ok (.tuple #[.agg #[],.bool false]) w:=by
 cases P with
 | nil=>cases h
 | no=>cases hn
 | leaf q u=>obtain⟨b,h,_⟩:=h;unfold jjs at h;injection h with h1 h2;subst h1 h2;kernel_rfl
 | ext q n=>obtain⟨b,_,_,_,h,_⟩:=h;unfold extV at h;injection h with h1 h2;subst h1 h2;kernel_rfl
 | br u ks=>obtain⟨b,_,_,h,_⟩:=h;unfold brV at h;injection h with h1 h2;subst h1 h2;kernel_rfl
theorem jrB(W:vW)(D:Nat->Prop)(v:vB)(ks:Nat->PA)(b:Nat)(h:PaO (.br v ks) (brV b) D W)(p:vB)(h0:p.size≠0)(hp:jaB p=true)(hs:p.size<=900000)(hn:(ks (jau p)).isNil=false)(hd:Dp (.br v ks) 900000)(hk:juo (ks (jau p)))(hno:(jbT (ks (jau p)) (jbC p)).isNo=false) :
  vQ 243 #[.pointer (some ⟨b,0,none⟩),.string p] W (PaTo D W (jdt v (setK ks (jau p) (jbT (ks (jau p)) (jbC p))))):=by
 obtain⟨vk,Dk,hb⟩:=h.br
 obtain⟨y,t,hy⟩:=jco h0
 obtain⟨e1,e2⟩:=jbL hy
 have E:=jdU hp h0
 obtain⟨g0,b4⟩:=jgy hy
 have c8:=jc5 h0;have a6:=jcz hp;have b5:(jbC p).size<=900000:=by unfold jbC;rw[ja1];omega
 have hI:jau p=(p[0]'g0).toNat:=by rw[e1,b4]
 have H:=hb.kid (jau p) E
 obtain⟨T,x,a8⟩:=H.1.form hn
 have q1:=hb.blk.cellL (jeH v vk E);rw[a8]at q1;have Q1:=Hd q1;have HB:=Hd hb;have HM:=Hd ((show PaAt (ks (jau p)) (.iface T x) (Dk (jau p)) W by rw[<-a8];exact H.1).meth);have a9:=hd (jau p) hn;have a1:=Hd (show ∀ Q,Ext W Q->vQ (jfo (ks (jau p))) #[x,.string (jbC p)] Q (PaTo (Dk (jau p)) Q (jbT (ks (jau p)) (jbC p)))from fun Q e=>hk Q T x _ _ ⟨(show PaAt (ks (jau p)) (.iface T x) (Dk (jau p)) W by rw[<-a8];exact H.1).keeps e _ _ _ (fun _ _ e=>e),fun z J=>bQ (hb.lt z (H.2.2 z J)) e.size⟩ b5 a6 (jch _ _ _ a9.2 vO));have b7:Hid (Dp (.br v (setK ks (jau p) (jbT (ks (jau p)) (jbC p)))) 900000):=jiw hd a9.1 (jiv _ _ _ a9.2) v;have b8:=Hd (show ¬(Dk (jau p) b\/W.heap.size<=b)from fun e=>e.elim (hb.kid _ E).2.1 (fun e=>by have:=hb.lt b hb.mem;omega));have hQ:=jnW T x;have b6:=Hd hI;have A:=Hd E;have c1:(0:Int) < (p.size:Int):=vO
 have c2:((p[0]'g0).toNat:Int) < 16:=vO
 have c3:(1:Int)<=(p.size:Int):=vO
 rw[hI]at q1;have b9:=Hd hno;clear h a8 hy e1 e2 h0 hp hn b4 a6 b5 E hI hb H hd a9 hk hno;go_enter Tryz.func243,Tryz.ntmps243;go_wp2_with fail
 refine jdf [0,1,2,3,4,5,6,7,8,9,10,11,13,14,12,15] 16 [12] Ext (jae (fun z=>Dk (jau p) z\/W.heap.size<=z)) ExtR ExtT (fun x y z h k=>jae.trans h k) (fun x y h=>h.mono (fun _ _ h=>h.elim)) vY vY vY ?_;iterate 4 refine vZ ?_
 refine jcM _ ((.pointer (some ⟨b,0,none⟩))) rfl vY rfl (fun w1=>by kernel_rfl) ?_;refine vS ?_;iterate 2 refine vZ ?_
 refine jgF ⟨b,1+(p[0]'g0).toNat,none⟩ _ rfl vY vY rfl rfl (fun w1 h1=>jaE (fun w=>by kernel_rfl) (by rw[<-b6.o];exact jam Q1.o (((jae.refl (fun z=>Dk (jau p) z\/W.heap.size<=z) W).drew).trans h1) (by exact b8.o))) ?_;refine vS ?_;iterate 2 refine vZ ?_
 refine jcM _ (.iface T x) rfl vY rfl (fun w1=>by kernel_rfl) ?_;refine vS ?_
 refine vZ ?_
 refine jcM _ ((.pointer (some ⟨b,0,none⟩))) rfl vY rfl (fun w1=>by kernel_rfl) ?_;refine vS ?_
 refine vZ ?_
 refine jgD _ rfl vY rfl (fun Q hb K hK=>?_);have kb:Ext W Q:=(jai _).trans hb;refine jbK (jcN (f:=jfo (ks (jau p))) (vs:=#[.string (jbC p)]) rfl (HM.o.drop _) (jfG _) vY) ?_;refine (a1.o Q kb).mono ?_;rintro e w2 ⟨v2,rfl,a3,X⟩
 refine⟨v2,rfl,hK _ _ (X.mono (fun z _ J=>.inl J)) ?_⟩
 have HS:=Hd (bB kb (bB a3 X));clear hK K hb kb a3 X;refine vS ?_
 refine vZ ?_
 refine jgE _ rfl vY rfl (fun wc hc K hK=>?_)
 obtain⟨hb,a3,X⟩:=HS.o
 have O:=HB.o.keeps (F:=fun _=>False) (hb) (fun _ _ e=>e);have kc:jae (Dk (jau p)) Q wc:=X.trans (hc.mono (fun _ _ e=>e.elim));have b0:PaAt (jbT (ks (jau p)) (jbC p)) v2 (Grow (Dk (jau p)) Q wc) wc:=(a3.keeps hc _ _ _ (fun _ _ e=>e)).mono (fun z J=>J.imp id (fun e=>⟨e.1,bQ e.2 hc.size⟩))
 obtain⟨T2,x2,rfl⟩:=b0.form (jfF _ _)
 have ht:=O.turn A.o kc b0;have Z:=O.turn_keeps A.o kc (.iface T2 x2)
 obtain⟨old,q7⟩:∃ v,wc.cell? ⟨b,1+jau p,none⟩=some v:=⟨_,(O.blk.keeps kc (O.kid _ A.o).2.1).cellL (bA (by rw[jg5];have:=A.o;omega))⟩
 have f7:wc.frozen? ⟨b,1+jau p,none⟩=false:=(O.blk.keeps kc (O.kid _ A.o).2.1).frozen
 obtain⟨W3,a4⟩:=vE (wc.setCell ⟨b,1+jau p,none⟩ (.iface T2 x2))
 rw[<-a4]at ht Z
 obtain⟨c0,a0⟩:=vE (setV vk (jau p) (.iface T2 x2))
 obtain⟨c9,a7⟩:=vE (fun j=>if j=jau p then Grow (Dk (jau p)) Q wc else Dk j)
 rw[<-a0, <-a7]at ht;have c4:W3.cell? ⟨b,1+jau p,none⟩=some (.iface T2 x2):=by
  have:=ht.blk.cellL (jeH v c0 A.o)
  rw[this,a0];show some (setV vk (jau p) (.iface T2 x2) (jau p))=_;unfold setV;rw[if_pos rfl]
 have HT:=Hd (bB ht (bB Z (bB hb (show W3.heap.size=wc.heap.size by rw[a4];exact gM _ _ _))));have c5:=Hd b0;rw[b6.o]at q7 f7 a4 c4;clear hb a3 X O kc b0 ht Z hc;go_simp;rw[<-a4];refine hK _ _ ?_;clear hK K q7 f7 a4 a0 a7;have d0:∀ w,(Instr.typeAssert (.iface T2 x2) 122 242 true).run Tryz.prog w=.ok (.tuple #[.agg #[],.bool false]) w:=jtq c5.o b9.o;go_wp2_with fail
 obtain⟨W4,b2⟩:=vE (W3.alloc (.cells #[] 242))
 have a2:Ext W3 W4:=by rw[b2];exact (ExtR W3).alloc _
 rw[<-b2];have b3:=Hd (bB (HT.o.1.keeps a2 (fun _ _ e=>e)) a2);clear a2 b2;refine (jn6 W4 _ v _ b b3.o.1.pa b7.o).mono ?_;rintro e w6 ⟨v6,rfl,b1,a5⟩;have HZ:=Hd (bB b1 (bB a5 (jeM b3.o.1.lt a5)));clear b1 a5;go_wp2_with fail
 go_ret
 obtain⟨b1,a5,c6⟩:=HZ.o
 obtain⟨ht,Z,hb,d1⟩:=HT.o
 obtain⟨_,a2⟩:=b3.o
 have d2:W.heap.size<=W3.heap.size:=by have:=hb.size;have:=Z.size;omega
 have c7:=a2.size;have g1:∀ z,Grow D Q wc z->D z\/W.heap.size<=z:=fun z J=>J.imp id (fun e=>bJ hb.size e.1);refine PaTo.mk1 (b1.mono (fun z J=>?_)) ?_
 ·have hl:=c6 z J
  rcases J with J | J
  ·exact (g1 z J).imp id (fun e=>⟨e,hl⟩)
  ·exact .inr ⟨by have:=J.1;omega,hl⟩
 ·have k1:jae D W W3:=(hb.mono (fun _ _ e=>e.elim):jae D W Q).trans Z
  have k2:jae D W W4:=k1.trans (a2.mono (fun _ _ e=>e.elim));exact k2.trans' a5 (fun z J e=>(g1 z e).elim id (fun e=>by omega))
theorem jqi(W:vW)(D:Nat->Prop)(v:vB)(ks:Nat->PA)(b:Nat)(h:PaO (.br v ks) (brV b) D W)(p:vB)(h0:p.size≠0)(hp:jaB p=true)(hs:p.size<=900000)(hn:(ks (jau p)).isNil=false)(hd:Dp (.br v ks) 900000)(hk:juo (ks (jau p)))(hno:(jbT (ks (jau p)) (jbC p)).isNo=true) :
  vQ 243 #[.pointer (some ⟨b,0,none⟩),.string p] W (PaTo D W (jdt v (setK ks (jau p) .nil))):=by
 obtain⟨vk,Dk,hb⟩:=h.br
 obtain⟨y,t,hy⟩:=jco h0
 obtain⟨e1,e2⟩:=jbL hy
 have H:=jdU hp h0
 obtain⟨g0,c4⟩:=jgy hy
 have d5:=jc5 h0;have a7:=jcz hp;have c5:(jbC p).size<=900000:=by unfold jbC;rw[ja1];omega
 have hI:jau p=(p[0]'g0).toNat:=by rw[e1,c4]
 have J:=hb.kid (jau p) H
 obtain⟨T,x,b0⟩:=J.1.form hn
 have q1:=hb.blk.cellL (jeH v vk H);rw[b0]at q1;have Q1:=Hd q1;have HB:=Hd hb;have HM:=Hd ((show PaAt (ks (jau p)) (.iface T x) (Dk (jau p)) W by rw[<-b0];exact J.1).meth);have b5:=hd (jau p) hn;have a1:=Hd (show ∀ Q,Ext W Q->vQ (jfo (ks (jau p))) #[x,.string (jbC p)] Q (PaTo (Dk (jau p)) Q (jbT (ks (jau p)) (jbC p)))from fun Q e=>hk Q T x _ _ ⟨(show PaAt (ks (jau p)) (.iface T x) (Dk (jau p)) W by rw[<-b0];exact J.1).keeps e _ _ _ (fun _ _ e=>e),fun z E=>bQ (hb.lt z (J.2.2 z E)) e.size⟩ c5 a7 (jch _ _ _ b5.2 vO));have c8:Hid (Dp (.br v (setK ks (jau p) .nil)) 900000):=jiw hd b5.1 ((show Dp PA.nil (900000 - 1)from trivial)) v;have c9:=Hd (show ¬(Dk (jau p) b\/W.heap.size<=b)from fun e=>e.elim (hb.kid _ H).2.1 (fun e=>by have:=hb.lt b hb.mem;omega));have hQ:=jnW T x;have b6:=Hd hI;have A:=Hd H;have c1:(0:Int) < (p.size:Int):=vO
 have c2:((p[0]'g0).toNat:Int) < 16:=vO
 have c3:(1:Int)<=(p.size:Int):=vO
 rw[hI]at q1;have d0:=Hd hno;clear h b0 hy e1 e2 h0 hp hn c4 a7 c5 H hI hb J hd b5 hk hno;go_enter Tryz.func243,Tryz.ntmps243;go_wp2_with fail
 refine jdf [0,1,2,3,4,5,6,7,8,9,10,11,13,14,12,15] 16 [12] Ext (jae (fun z=>Dk (jau p) z\/W.heap.size<=z)) ExtR ExtT (fun x y z h k=>jae.trans h k) (fun x y h=>h.mono (fun _ _ h=>h.elim)) vY vY vY ?_;iterate 4 refine vZ ?_
 refine jcM _ ((.pointer (some ⟨b,0,none⟩))) rfl vY rfl (fun w1=>by kernel_rfl) ?_;refine vS ?_;iterate 2 refine vZ ?_
 refine jgF ⟨b,1+(p[0]'g0).toNat,none⟩ _ rfl vY vY rfl rfl (fun w1 h1=>jaE (fun w=>by kernel_rfl) (by rw[<-b6.o];exact jam Q1.o (((jae.refl (fun z=>Dk (jau p) z\/W.heap.size<=z) W).drew).trans h1) (by exact c9.o))) ?_;refine vS ?_;iterate 2 refine vZ ?_
 refine jcM _ (.iface T x) rfl vY rfl (fun w1=>by kernel_rfl) ?_;refine vS ?_
 refine vZ ?_
 refine jcM _ ((.pointer (some ⟨b,0,none⟩))) rfl vY rfl (fun w1=>by kernel_rfl) ?_;refine vS ?_
 refine vZ ?_
 refine jgD _ rfl vY rfl (fun Q hb K hK=>?_);have kb:Ext W Q:=(jai _).trans hb;refine jbK (jcN (f:=jfo (ks (jau p))) (vs:=#[.string (jbC p)]) rfl (HM.o.drop _) (jfG _) vY) ?_;refine (a1.o Q kb).mono ?_;rintro e w2 ⟨v2,rfl,a4,X⟩
 refine⟨v2,rfl,hK _ _ (X.mono (fun z _ E=>.inl E)) ?_⟩
 have HS:=Hd (bB kb (bB a4 X));clear hK K hb kb a4 X;refine vS ?_
 refine vZ ?_
 refine jgE _ rfl vY rfl (fun wc hc K hK=>?_)
 obtain⟨hb,a4,X⟩:=HS.o
 have O:=HB.o.keeps (F:=fun _=>False) (hb) (fun _ _ e=>e);have kc:jae (Dk (jau p)) Q wc:=X.trans (hc.mono (fun _ _ e=>e.elim));have b1:PaAt (jbT (ks (jau p)) (jbC p)) v2 (Grow (Dk (jau p)) Q wc) wc:=(a4.keeps hc _ _ _ (fun _ _ e=>e)).mono (fun z E=>E.imp id (fun e=>⟨e.1,bQ e.2 hc.size⟩))
 obtain⟨T2,x2,rfl⟩:=b1.form (jfF _ _)
 have ht:=O.turn A.o kc b1;have Z:=O.turn_keeps A.o kc (.iface T2 x2)
 obtain⟨old,q7⟩:∃ v,wc.cell? ⟨b,1+jau p,none⟩=some v:=⟨_,(O.blk.keeps kc (O.kid _ A.o).2.1).cellL (bA (by rw[jg5];have:=A.o;omega))⟩
 have f7:wc.frozen? ⟨b,1+jau p,none⟩=false:=(O.blk.keeps kc (O.kid _ A.o).2.1).frozen
 obtain⟨W3,a5⟩:=vE (wc.setCell ⟨b,1+jau p,none⟩ (.iface T2 x2))
 rw[<-a5]at ht Z
 obtain⟨d1,a0⟩:=vE (setV vk (jau p) (.iface T2 x2))
 obtain⟨d6,a8⟩:=vE (fun j=>if j=jau p then Grow (Dk (jau p)) Q wc else Dk j)
 rw[<-a0, <-a8]at ht;have b7:W3.cell? ⟨b,1+jau p,none⟩=some (.iface T2 x2):=by
  have:=ht.blk.cellL (jeH v d1 A.o)
  rw[this,a0];show some (setV vk (jau p) (.iface T2 x2) (jau p))=_;unfold setV;rw[if_pos rfl]
 have HT:=Hd (bB ht (bB Z (bB hb (show W3.heap.size=wc.heap.size by rw[a5];exact gM _ _ _))));have d2:=Hd b1;rw[b6.o]at q7 f7 a5 b7;clear hb a4 X O kc b1 ht Z hc;go_simp;rw[<-a5];refine hK _ _ ?_;clear hK K q7 f7 a5 a0 a8;have c6:Value.iface T2 x2=noV:=by have:=d2.o;rw[jsz d0.o]at this;exact this
 unfold noV at c6;injection c6 with hn1 hn2;subst hn1 hn2;have d7:∀ w,(Instr.typeAssert (.iface 242 (.agg #[])) 122 242 true).run Tryz.prog w=.ok (.tuple #[.agg #[],.bool true]) w:=fun w=>by kernel_rfl
 have q4:(W3.alloc (.cells #[] 242)).cell? ⟨b,1+(p[0]'g0).toNat,none⟩=some (.iface 242 (.agg #[])):=jaa b7 ((ExtR W3).alloc _);have f4:(W3.alloc (.cells #[] 242)).frozen? ⟨b,1+(p[0]'g0).toNat,none⟩=false:=(HT.o.1.blk.alloc _).frozen;clear q4;have q4:=jaa b7 ((ExtR W3).alloc (.cells #[] 242));go_wp2_with fail
 obtain⟨W4,b8⟩:=vE (W3.alloc (.cells #[] 242))
 have a2:Ext W3 W4:=by rw[b8];exact (ExtR W3).alloc _
 rw[<-b8]at q4 f4 ⊢;have b9:=HT.o.1.keeps a2 (fun _ _ e=>e);have b2:=b9.turn A.o (P:=.nil) (v:=.nilIface) (jae.refl _ W4) rfl;have a3:=b9.turn_keeps A.o (jae.refl _ W4) .nilIface
 obtain⟨W5,b3⟩:=vE (W4.setCell ⟨b,1+jau p,none⟩ .nilIface)
 rw[<-b3]at b2 a3;rw[b6.o]at b3;rw[<-b3];have c7:setK (setK ks (jau p) (jbT (ks (jau p)) (jbC p))) (jau p) .nil=setK ks (jau p) .nil:=by
  funext j
  unfold setK
  by_cases e:j=jau p
  ·rw[if_pos e,if_pos e]
  ·rw[if_neg e,if_neg e,if_neg e]
 rw[c7]at b2;have a9:W4.heap.size<=W5.heap.size:=a3.size;have c0:=Hd (bB b2 (bB a3 (bB a2 a9)));clear b9 b2 a3 a2 b8 b3 q4 f4 c7 a9;refine (jn6 W5 _ v _ b c0.o.1.pa c8.o).mono ?_;rintro e w6 ⟨v6,rfl,b4,a6⟩;have HZ:=Hd (bB b4 (bB a6 (jeM c0.o.1.lt a6)));clear b4 a6;go_wp2_with fail
 go_ret
 obtain⟨b4,a6,d3⟩:=HZ.o
 obtain⟨ht,Z,hb,d8⟩:=HT.o
 obtain⟨_,a3,a2,d9⟩:=c0.o
 have e0:W.heap.size<=W3.heap.size:=by have:=hb.size;have:=Z.size;omega
 have d4:=a2.size;have g1:∀ z,Grow D Q wc z->D z\/W.heap.size<=z:=fun z E=>E.imp id (fun e=>bJ hb.size e.1);have g2:∀ z,Grow (Grow D Q wc) W4 W4 z->D z\/W.heap.size<=z:=fun z E=>E.elim (g1 z) (fun e=>by omega);refine PaTo.mk1 (b4.mono (fun z E=>?_)) ?_
 ·have hl:=d3 z E
  rcases E with E | E
  ·exact (g2 z E).imp id (fun e=>⟨e,hl⟩)
  ·exact .inr ⟨by have:=E.1;omega,hl⟩
 ·have k1:jae D W W3:=(hb.mono (fun _ _ e=>e.elim):jae D W Q).trans Z
  have k2:jae D W W4:=k1.trans (a2.mono (fun _ _ e=>e.elim));have k3:jae D W W5:=k2.trans' a3 (fun z E e=>(g1 z e).elim id (fun e=>by omega));exact k3.trans' a6 (fun z E e=>(g2 z e).elim id (fun e=>by omega))
theorem jh4:∀ (P:PA),VaP P->juo P
 | .nil,_=>fun W T x D p h _ _ _=>by cases h.at'
 | .no,_=>fun W T x D p h _ _ _=>by
  have e:Value.iface T x=noV:=h.at';unfold noV at e;injection e with e1 e2;subst e1 e2;exact jvH W D p
 | .leaf q v,hv=>fun W T x D p h A E o=>by
  obtain⟨b,e,J,K⟩:=h.at'
  unfold jjs at e;injection e with e1 e2;subst e1 e2;exact jxS W D q v p b K J
 | .ext q n,hv=>fun W T x D p h A E o=>by
  obtain⟨b,Q,X,O,e,J,K,Z,h4,h5⟩:=h.at'
  unfold extV at e;injection e with e1 e2;subst e1 e2;have H:∀ z,O z->D z/\z < W.heap.size:=fun z hz=>⟨h5 z hz,h.lt z (h5 z hz)⟩;show Calls _ _ _ W (PaTo D W (jbT (.ext q n) p));unfold jbT;cases hf:preB q p with
  | true =>
   rw[if_pos rfl];exact ju9 W D q n Q X O b K J Z h4 H p E o.1 A (jch _ _ _ o.2 vO) (jh4 n hv.2) hf
  | false =>
   rw[if_neg ff];exact jva W D q n Q X O b K J Z h4 H p E o.1 A hf
 | .br v ks,hv=>fun W T x D p h A E o=>by
  obtain⟨b,vk,Dk,e,_⟩:=h.at'
  unfold brV at e;injection e with e1 e2;subst e1 e2;show Calls _ _ _ W (PaTo D W (jbT (.br v ks) p));unfold jbT
  by_cases h0:p.size=0
  ·rw[if_pos h0,jby h0]
   exact jrC W D v ks b h o
  ·rw[if_neg h0]
   cases hk:(ks (jau p)).isNil with
   | true=>rw[if_pos rfl];exact juE W D v ks b h p h0 E A hk
   | false =>
    rw[if_neg ff];unfold unNo;cases hno:(jbT (ks (jau p)) (jbC p)).isNo with
    | true=>rw[if_pos rfl];exact jqi W D v ks b h p h0 E A hk o (jh4 (ks (jau p)) (hv _)) hno
    | false=>rw[if_neg ff];exact jrB W D v ks b h p h0 E A hk o (jh4 (ks (jau p)) (hv _)) hno
def cntP:PA->Nat
 | .nil=>0
 | .no=>1
 | .leaf _ _=>1
 | .ext _ n=>1+cntP n
 | .br _ ks=>1+sumF (fun i=>cntP (ks i)) 16
theorem jpj(p v:vB):(keyR p v).length<=1:=by unfold keyR;split <;> simp
theorem jgz{α:Type}(g:Nat->List α)(f:Nat->Nat)(h:∀ i,(g i).length<=f i):∀ n,((List.range n).flatMap g).length<=sumF f n
 | 0=>by simp
 | n+1=>by
  rw[fR,dX,bC]
  have:=jgz g f h n
  have:=h n
  simp only[cG,fU,bZ,sumF];omega
theorem jnU:∀ (P:PA) (p:vB),(entP P p).length<=cntP P
 | .nil,_=>bL _
 | .no,_=>cD _
 | .leaf q v,p=>jpj _ _
 | .ext q n,p=>bJ (jnU n (p++q)) (Nat.le_add_left _ _)
 | .br v ks,p=>by
  show ((if v.size=0 then []else keyR p v)++(List.range 16).flatMap fun i=>if (ks i).isNil then []else entP (ks i) (p++nib1 i)).length<=1+sumF (fun i=>cntP (ks i)) 16;rw[bC];have e:(if v.size=0 then []else keyR p v:vL).length<=1:=by
   split
   ·simp
   ·exact jpj _ _
  have o:=jgz (fun i=>if (ks i).isNil then []else entP (ks i) (p++nib1 i)) (fun i=>cntP (ks i)) (fun i=>by
   show (if (ks i).isNil=true then ([]:vL)else entP (ks i) (p++nib1 i)).length<=cntP (ks i);split
   ·simp
   ·exact jnU (ks i) _) 16
  omega
theorem ERow.len'{w0 w:vW}{v:vV}{n:Nat}{xs:vL}(h:ERow w0 w v n xs):n=xs.length:=by have:=h.len;rw[jdF]at this;omega
def EnP(w0:vW)(xs:vL)(e:Ending)(w':vW):Prop:=∃ v n,e=.returned v/\ERow w0 w' v n xs
def EntC(P:PA):Prop:=∀ (w0 W:vW) (T:TypeId) (x:vV) (D:Nat->Prop) (p:vB) (v:vV) (n k:Nat) (E:vL),PaO P (.iface T x) D w0->ERow w0 W v n E->Dp P k->p.size+k<=900000->n+cntP P<=100000 ->
 vQ (jgd P) #[x,.string p,v] W (EnP w0 (E++entP P p))
theorem jx6(w0 W:vW)(p:vB)(v:vV)(n:Nat)(E:vL)(h:ERow w0 W v n E):vQ 248 #[.agg #[],.string p,v] W (EnP w0 E):=by
 have H:=Hd h
 obtain⟨a,c,rfl⟩:=h.sl
 clear h;unfold vQ;go_in;go_wp2_with fail
 go_ret
 exact⟨_,n,rfl,H.o.mono ((ExtR W).alloc _)⟩
theorem jjF(k v:vB):jca [(k,v)]=[.string k,.string v]:=rfl
theorem jz3(w0 W:vW)(q u p:vB)(b:Nat)(hB:Blk w0 b (.cells #[.string q,.string u] 233))(v:vV)(n:Nat)(E:vL)(h:ERow w0 W v n E)(hs:p.size+q.size<=900000)(hn:n<=100000) :
  vQ 231 #[.pointer (some ⟨b,0,none⟩),.string p,v] W (EnP w0 (E++keyR (p++q) u)):=by
 have q0:=jaa (hB.cell (i:=0) (v:=.string q) vF) h.ext;have Q1:=Hd (jaa (hB.cell (i:=1) (v:=.string u) vF) h.ext);have H:=Hd h
 obtain⟨a,c,rfl⟩:=h.sl
 have e:=fun w=>jsB w (p++q) (by rw[jc7];omega);unfold keyV at e;unfold keyR;cases hok:jdj (p++q)with
 | false =>
  rw[if_neg ff,bZ];rw[hok,if_neg ff]at e;have J:=Hd e;clear h hB e hok;go_enter Tryz.func231,Tryz.ntmps231;go_wp2_with fail
  refine vH (J.o W) fun w1 Q=>?_;go_wp2_with fail
  go_ret
  exact⟨_,n,rfl,H.o.mono Q.o⟩
 | true =>
  rw[if_pos rfl];rw[hok,if_pos rfl]at e;have J:=Hd e;clear h hB e hok;go_enter Tryz.func231,Tryz.ntmps231;go_wp2_with fail
  refine vC (J.o W) fun w1 A=>?_;have Q:=Hd A;have q1:=jaa Q1.o A;have HR:=Hd (H.o.mono A);clear A;go_wp2_with (at_builtin;refine jaO Tryz.sEnts (HR.o.mono ((ExtR w1).alloc _)) (.tmp 20) (.tmp 27) rfl rfl rfl (jaJ (Blk.new w1 _)) (news:=[.string (jbu (p++q)),.string u]) (by intro u X;simp at X;rcases X with rfl | rfl <;> rfl) rfl rfl (by unfold maxLen;omega) vO (fun v' w' Z r2 r3=>?_);obtain⟨a5,c5,K⟩:=Z.sl;subst K;have O:=Hd Z)
  go_ret
  exact⟨_,n+1,rfl,by have:=O.o;rw[<-jjF, <-jbb]at this;exact this⟩
def jrd(w0 a b:vW):Prop:=Ext w0 a->Ext w0 b
theorem jny(w0 x y z:vW)(h:jrd w0 x y)(k:jrd w0 y z):jrd w0 x z:=fun e=>k (h e)
theorem jrs(w0 x y:vW)(h:Ext x y):jrd w0 x y:=fun e=>e.trans h
theorem jzM(w0 W:vW)(q:vB)(n:PA)(T:TypeId)(x:vV)(Dn:Nat->Prop)(b:Nat)(hB:Blk w0 b (.cells #[.string q,.iface T x] 236))(hv:PaAt n (.iface T x) Dn w0)(hD:∀ x,Dn x->x < w0.heap.size)(p:vB)(v:vV)(m k:Nat)(E:vL)(h:ERow w0 W v m E)(O:Dp n k)(hs:(p++q).size+k<=900000)(hn:m+cntP n<=100000)(hk:EntC n) :
  vQ 237 #[.pointer (some ⟨b,0,none⟩),.string p,v] W (EnP w0 (E++entP n (p++q))):=by
 have Q0:=Hd (hB.cell (i:=0) (v:=.string q) vF);have Q1:=Hd (hB.cell (i:=1) (v:=.iface T x) vF);have Q:=Hd h.ext;have HM:=Hd hv.meth;have hz:p.size+q.size<=900000:=by rw[<-jc7];omega
 obtain⟨a,c,X⟩:=h.sl
 have A:=Hd (show ∀ H,Ext W H->vQ (jgd n) #[x,.string (p++q),v] H (EnP w0 (E++entP n (p++q)))from fun H e=>hk w0 H T x Dn (p++q) v m k E ⟨hv,hD⟩ (h.mono e) O hs hn);subst X;clear hB hv hD h O hs hn hk;go_enter Tryz.func237,Tryz.ntmps237;go_wp2_with fail
 refine jaC [0,1,2,3,4,5,6,7,8,9,10,11,12,13,14] [13] Ext (jrd w0) ExtR ExtT (jny w0) (jrs w0) vY vY vY ?_
 refine vD ?_
 refine qDV _ ((.pointer (some ⟨b,0,none⟩))) rfl (fun w1 _=>by kernel_rfl) ?_;refine vS ?_
 refine vD ?_
 refine qDL ⟨b,1,none⟩ _ rfl (fun w1 Z=>jaE (fun w=>by kernel_rfl) (jaa Q1.o (Z (Q.o.trans (jai _))))) ?_;refine vS ?_;iterate 2 refine vD ?_
 refine qDV _ ((.pointer (some ⟨b,0,none⟩))) rfl (fun w1 _=>by kernel_rfl) ?_;refine vS ?_
 refine vD ?_
 refine qDL ⟨b,0,none⟩ _ rfl (fun w1 Z=>jaE (fun w=>by kernel_rfl) (jaa Q0.o (Z (Q.o.trans (jai _))))) ?_;refine vS ?_;iterate 2 refine vD ?_
 refine qDV _ (.iface T x) rfl (fun w1 _=>by kernel_rfl) ?_;refine vS ?_
 refine vD ?_
 refine qDH _ rfl (fun H hb K hK=>?_);have kb:Ext W H:=(jai _).trans hb;refine jbK (jcN (f:=jgd n) (vs:=#[.string (p++q),.slice a m c]) rfl (HM.o.ent _) (jeo _) vY) ?_;refine (A.o H kb).mono ?_;rintro e w2 ⟨v2,m2,rfl,J⟩
 refine⟨v2,rfl,hK _ _ (fun _=>J.ext) ?_⟩
 have HS:=Hd J;clear hK K hb kb J;refine vS ?_
 refine vD ?_
 refine qDE (fun wd O=>?_);have HQ:=Hd O;clear O;go_wp2_with fail
 go_ret
 exact⟨_,_,rfl,HS.o.mono HQ.o⟩
def entK(ks:Nat->PA)(p:vB)(k:Nat):vL:=(List.range k).flatMap fun i=>if (ks i).isNil then []else entP (ks i) (p++nib1 i)
theorem jix(ks:Nat->PA)(p:vB)(k:Nat):entK ks p (k+1)=entK ks p k++(if (ks k).isNil then []else entP (ks k) (p++nib1 k)):=by
 unfold entK;rw[fR,dX]
 simp
theorem jkF(ks:Nat->PA)(p:vB)(k:Nat):(entK ks p k).length<=sumF (fun i=>cntP (ks i)) k:=jgz _ _ (fun i=>by
 show (if (ks i).isNil=true then ([]:vL)else entP (ks i) (p++nib1 i)).length<=cntP (ks i);split
 ·simp
 ·exact jnU (ks i) _) k
theorem jeA(f:Nat->Nat)(k:Nat):∀ d,sumF f k<=sumF f (k+d)
 | 0=>bL _
 | d+1=>bJ (jeA f k d) (Nat.le_add_right _ _)
def jw1(w0:vW)(ks:Nat->PA)(p:vB)(E:vL)(tv iv:vV)(wr:vW):Prop:=∃ (k m:Nat),k<=16/\iv=.int .i64 (k:Int)/\ERow w0 wr tv m (E++entK ks p k)
theorem jkB(w:vW){m:Nat}(hm:m < 16):(convert 120 9 (.slice (some ⟨w.heap.size,0,none⟩) 1 1)).run Tryz.prog (w.alloc (.cells #[.int .u8 (m:Int)] 5))=.ok (.string (nib1 m)) (w.alloc (.cells #[.int .u8 (m:Int)] 5)):=by
 have e:(m:Int)=((UInt8.ofNat m).toNat:Int):=by rw[jox m vO]
 rw[e];exact Tryz.run_lit1 w (UInt8.ofNat m)
structure BrRd(u:vB)(ks:Nat->PA)(b:Nat)(vk:Nat->Value)(Dk:Nat->Nat->Prop)(W:World):Prop where
 blk:Blk W b (.cells (brC u vk).toArray 240)
 kid:∀ i,i < 16->PaO (ks i) (vk i) (Dk i) W
theorem jrE(w0 W:vW)(u p:vB)(ks:Nat->PA)(b:Nat)(vk:Nat->vV)(Dk:Nat->Nat->Prop)(hb:BrRd u ks b vk Dk w0)(v:vV)(n kk:Nat)(E:vL)(h:ERow w0 W v n E)(hd:Dp (.br u ks) kk)(hs:p.size+kk<=900000)(hn:n+1+sumF (fun i=>cntP (ks i)) 16<=100000)(ih:∀ i,i < 16->(ks i).isNil=false->EntC (ks i))(ho:jdj p=false) :
  vQ 244 #[.pointer (some ⟨b,0,none⟩),.string p,v] W (EnP w0 (E++entK ks p 16)):=by
 have H:=Hd hb;have b0:=Hd hd;have a6:=Hd hs;have b3:=Hd ih;have b4:=Hd h.ext;have H0:=Hd h;have b5:=h.len';have q0:=jaa (hb.blk.cellL (i:=0) (v:=.string u) vF) h.ext;have Q:=jbg (hb.blk.keeps h.ext (fun e=>e));have c4:(⟨#[]⟩:vB).toList.isEmpty=true:=by rw[bR];rfl
 have c5:=jkT;have J:=jsB W p vO;unfold keyV at J
 obtain⟨a,c,a5⟩:=h.sl
 rw[ho,if_neg ff]at J;have HK:=Hd J;have b6:=Hd (show E.length+sumF (fun i=>cntP (ks i)) 16<=100000 by omega);have hB:=Hd hb.blk;clear hb hd hs ih h hn ho J Q;subst a5;go_enter Tryz.func244,Tryz.ntmps244;go_wp2_with fail
 refine HK.o.mono ?_;rintro e w1 ⟨rfl,hE⟩;have Q:=jbg (hB.o.keeps (b4.o.trans hE) (fun e=>e));have b7:=Hd (H0.o.mono hE);clear hE q0;clear b5;go_wp2_with (refine jaf 238 (.tmp 35) rfl rfl _ _ rfl Q ?_)
 go_loopw [2,37] (fun tv iv wr=>jw1 w0 ks p E tv iv wr) (fun _ iv _=>16 - (intOf iv).toNat)
 case atStart=>exact⟨0,n,by omega,rfl,by rw[show entK ks p 0=[]from rfl,bZ];exact b7.o⟩
 case round =>
  obtain⟨k,m,hk,rfl,hR⟩:=hrel
  have X:=Hd hR;have a7:m<=E.length+sumF (fun i=>cntP (ks i)) k:=by
   have h1:=hR.len';have h2:=jkF ks p k;rw[bC]at h1;omega
  have b8:=Hd a7
  obtain⟨a2,c2,K⟩:=hR.sl
  clear hR a7
  by_cases hlt:k < 16
  ·have a8:=jeV vk hlt
   have A:=jix ks p k;rcases (H.o.kid k hlt).at'.kid with⟨hn,hv⟩ |⟨hn,T,x,hv⟩
   ·rw[hn,if_pos rfl,bZ]at A
    rw[hv]at a8;have Z:=Hd A;clear A hn hv;subst K;go_wp2;go_roundw
    case rel=>exact⟨k+1,m,by omega,by go_num,by rw[Z.o];exact X.o⟩
    case measure=>exact vJ
   ·rw[hn,if_neg ff]at A
    rw[hv]at a8;have hq:=jdz T x;have O:=H.o.kid k hlt;rw[hv]at O;have a9:=O.at'.meth;have c6:∀ w,(Go.method (421+1) T x "guilloche/trie.entries").run Tryz.prog w=.ok (jgd (ks k),x) w:=a9.ent;have c7:=jeo (ks k);have c8:=jkB wr hlt;have a1:=b0.o k hn;have b9:sumF (fun i=>cntP (ks i)) k+cntP (ks k)<=sumF (fun i=>cntP (ks i)) 16:=by
     have h1:=jeA (fun i=>cntP (ks i)) (k+1) (15 - k);rw[show k+1+(15 - k)=16 by omega]at h1;exact h1
    have a0:=Hd (show ∀ wb,Ext wr wb->vQ (jgd (ks k)) #[x,.string (p++nib1 k),.slice a2 m c2] wb (EnP w0 (E++entK ks p k++entP (ks k) (p++nib1 k)))from fun wb e=>b3.o k hlt hn w0 wb T x (Dk k) (p++nib1 k) _ m (kk - 1) _ O (by rw[<-K];exact X.o.mono e) a1.2 (by rw[jc7];have:(nib1 k).size=1:=rfl;have:=a6.o;have:=a1.1;omega) (by have:=b8.o;have:=b6.o;omega));have Z:=Hd A;have b1:(k:Int) < 256:=vO
    have c9:p.size+(nib1 k).size<=900001:=by have:(nib1 k).size=1:=rfl;have:=a6.o;omega
    have b2:(k:Int) < 16:=vO
    clear A hn hv O a9 a1 b9;subst K;go_wp2_with fail
    refine (a0.o _ ((ExtR wr).alloc _)).mono ?_;rintro e w2 ⟨v2,m2,rfl,a4⟩;have c0:=Hd a4
    obtain⟨a3,c3,c1⟩:=a4.sl
    subst c1;clear a4;go_wp2_with fail
    go_roundw
    case rel=>exact⟨k+1,m2,by omega,by go_num,by rw[Z.o, <-cE];exact c0.o⟩
    case measure=>exact vJ
  ·obtain rfl:k=16:=vO
   subst K;go_wp2_with fail
   go_ret
   exact⟨_,_,rfl,X.o⟩
theorem juI(w0 W:vW)(u p:vB)(ks:Nat->PA)(b:Nat)(vk:Nat->vV)(Dk:Nat->Nat->Prop)(hb:BrRd u ks b vk Dk w0)(v:vV)(n kk:Nat)(E:vL)(h:ERow w0 W v n E)(hd:Dp (.br u ks) kk)(hs:p.size+kk<=900000)(hn:n+1+sumF (fun i=>cntP (ks i)) 16<=100000)(ih:∀ i,i < 16->(ks i).isNil=false->EntC (ks i))(ho:jdj p=true)(hu:u.size≠0) :
  vQ 244 #[.pointer (some ⟨b,0,none⟩),.string p,v] W (EnP w0 ((E++[(jbu p,u)])++entK ks p 16)):=by
 have H:=Hd hb;have b4:=Hd hd;have a7:=Hd hs;have b5:=Hd ih;have c8:=Hd h.ext;have H0:=Hd h;have b6:=h.len';have q0:=jaa (hb.blk.cellL (i:=0) (v:=.string u) vF) h.ext;have Q:=jbg (hb.blk.keeps h.ext (fun e=>e));have c9:(⟨#[]⟩:vB).toList.isEmpty=true:=by rw[bR];rfl
 have d0:=jkT;have J:=jsB W p vO;unfold keyV at J
 obtain⟨a,c,a6⟩:=h.sl
 rw[ho,if_pos rfl]at J;have HK:=Hd J;have d1:=jc5 hu;have b7:=Hd (show (E++[(jbu p,u)]).length+sumF (fun i=>cntP (ks i)) 16<=100000 by rw[bC,iH];omega);have hB:=Hd hb.blk;have Q0:=Hd q0;have c7:n<=100000:=vO
 clear hb hd hs ih h hn ho J Q hu q0;subst a6;go_enter Tryz.func244,Tryz.ntmps244;go_wp2_with fail
 refine HK.o.mono ?_;rintro e w1 ⟨rfl,hE⟩;have q0:=jaa Q0.o hE;have b8:=Hd (H0.o.mono hE);clear hE b6;go_wp2_with (first |(at_builtin;refine jaO Tryz.sEnts (b8.o.mono ((ExtR w1).alloc _)) (.tmp 24) (.tmp 31) rfl rfl rfl (jaJ (Blk.new w1 _)) (news:=[.string (jbu p),.string u]) (by intro u hu;simp at hu;rcases hu with rfl | rfl <;> rfl) rfl rfl (by unfold maxLen;omega) vO (fun v' w' r1 r2 r3=>?_);obtain⟨a5,c5,b9⟩:=r1.sl;subst b9;have a8:Hid (ERow w0 w' (.slice a5 (n+1) c5) (n+1) (E++[(jbu p,u)])):=Hd (by rw[<-jjF, <-jbb]at r1;exact r1);have Q:=jbg (hB.o.keeps a8.o.ext (fun e=>e))) |(refine jaf 238 (.tmp 35) rfl rfl _ _ rfl Q ?_))
 go_loopw [2,37] (fun tv iv wr=>jw1 w0 ks p (E++[(jbu p,u)]) tv iv wr) (fun _ iv _=>16 - (intOf iv).toNat)
 case atStart=>exact⟨0,(n+1),by omega,rfl,by rw[show entK ks p 0=[]from rfl,bZ];exact a8.o⟩
 case round =>
  obtain⟨k,m,hk,rfl,hR⟩:=hrel
  have X:=Hd hR;have a9:m<=(E++[(jbu p,u)]).length+sumF (fun i=>cntP (ks i)) k:=by
   have h1:=hR.len';have h2:=jkF ks p k;rw[bC]at h1;omega
  have c0:=Hd a9
  obtain⟨a2,c2,K⟩:=hR.sl
  clear hR a9
  by_cases hlt:k < 16
  ·have b0:=jeV vk hlt
   have A:=jix ks p k;rcases (H.o.kid k hlt).at'.kid with⟨hn,hv⟩ |⟨hn,T,x,hv⟩
   ·rw[hn,if_pos rfl,bZ]at A
    rw[hv]at b0;have Z:=Hd A;clear A hn hv;subst K;go_wp2;go_roundw
    case rel=>exact⟨k+1,m,by omega,by go_num,by rw[Z.o];exact X.o⟩
    case measure=>exact vJ
   ·rw[hn,if_neg ff]at A
    rw[hv]at b0;have hq:=jdz T x;have O:=H.o.kid k hlt;rw[hv]at O;have b3:=O.at'.meth;have d2:∀ w,(Go.method (421+1) T x "guilloche/trie.entries").run Tryz.prog w=.ok (jgd (ks k),x) w:=b3.ent;have d3:=jeo (ks k);have d4:=jkB wr hlt;have a1:=b4.o k hn;have c1:sumF (fun i=>cntP (ks i)) k+cntP (ks k)<=sumF (fun i=>cntP (ks i)) 16:=by
     have h1:=jeA (fun i=>cntP (ks i)) (k+1) (15 - k);rw[show k+1+(15 - k)=16 by omega]at h1;exact h1
    have a0:=Hd (show ∀ wb,Ext wr wb->vQ (jgd (ks k)) #[x,.string (p++nib1 k),.slice a2 m c2] wb (EnP w0 ((E++[(jbu p,u)])++entK ks p k++entP (ks k) (p++nib1 k)))from fun wb e=>b5.o k hlt hn w0 wb T x (Dk k) (p++nib1 k) _ m (kk - 1) _ O (by rw[<-K];exact X.o.mono e) a1.2 (by rw[jc7];have:(nib1 k).size=1:=rfl;have:=a7.o;have:=a1.1;omega) (by have:=c0.o;have:=b7.o;omega));have Z:=Hd A;have b1:(k:Int) < 256:=vO
    have d5:p.size+(nib1 k).size<=900001:=by have:(nib1 k).size=1:=rfl;have:=a7.o;omega
    have b2:(k:Int) < 16:=vO
    clear A hn hv O b3 a1 c1;subst K;go_wp2_with fail
    refine (a0.o _ ((ExtR wr).alloc _)).mono ?_;rintro e w2 ⟨v2,m2,rfl,a4⟩;have c4:=Hd a4
    obtain⟨a3,c3,c6⟩:=a4.sl
    subst c6;clear a4;go_wp2_with fail
    go_roundw
    case rel=>exact⟨k+1,m2,by omega,by go_num,by rw[Z.o, <-cE];exact c4.o⟩
    case measure=>exact vJ
  ·obtain rfl:k=16:=vO
   subst K;go_wp2_with fail
   go_ret
   exact⟨_,_,rfl,X.o⟩
theorem juH(w0 W:vW)(u p:vB)(ks:Nat->PA)(b:Nat)(vk:Nat->vV)(Dk:Nat->Nat->Prop)(hb:BrRd u ks b vk Dk w0)(v:vV)(n kk:Nat)(E:vL)(h:ERow w0 W v n E)(hd:Dp (.br u ks) kk)(hs:p.size+kk<=900000)(hn:n+1+sumF (fun i=>cntP (ks i)) 16<=100000)(ih:∀ i,i < 16->(ks i).isNil=false->EntC (ks i))(ho:jdj p=true)(hu:u.size=0) :
  vQ 244 #[.pointer (some ⟨b,0,none⟩),.string p,v] W (EnP w0 (E++entK ks p 16)):=by
 have H:=Hd hb;have b0:=Hd hd;have a6:=Hd hs;have b3:=Hd ih;have b4:=Hd h.ext;have H0:=Hd h;have b5:=h.len';have q0:=jaa (hb.blk.cellL (i:=0) (v:=.string u) vF) h.ext;have Q:=jbg (hb.blk.keeps h.ext (fun e=>e));have c5:(⟨#[]⟩:vB).toList.isEmpty=true:=by rw[bR];rfl
 have c6:=jkT;have J:=jsB W p vO;unfold keyV at J
 obtain⟨a,c,a5⟩:=h.sl
 rw[ho,if_pos rfl]at J;have HK:=Hd J;have b6:=jby hu;subst b6;have b7:=Hd (show E.length+sumF (fun i=>cntP (ks i)) 16<=100000 by omega);have hB:=Hd hb.blk;have Q0:=Hd q0;clear hb hd hs ih h hn ho J Q hu q0;subst a5;go_enter Tryz.func244,Tryz.ntmps244;go_wp2_with fail
 refine HK.o.mono ?_;rintro e w1 ⟨rfl,hE⟩;have q0:=jaa Q0.o hE;have Q:=jbg (hB.o.keeps (b4.o.trans hE) (fun e=>e));have b8:=Hd (H0.o.mono hE);clear hE b5;go_wp2_with (refine jaf 238 (.tmp 35) rfl rfl _ _ rfl Q ?_)
 go_loopw [2,37] (fun tv iv wr=>jw1 w0 ks p E tv iv wr) (fun _ iv _=>16 - (intOf iv).toNat)
 case atStart=>exact⟨0,n,by omega,rfl,by rw[show entK ks p 0=[]from rfl,bZ];exact b8.o⟩
 case round =>
  obtain⟨k,m,hk,rfl,hR⟩:=hrel
  have X:=Hd hR;have a7:m<=E.length+sumF (fun i=>cntP (ks i)) k:=by
   have h1:=hR.len';have h2:=jkF ks p k;rw[bC]at h1;omega
  have b9:=Hd a7
  obtain⟨a2,c2,K⟩:=hR.sl
  clear hR a7
  by_cases hlt:k < 16
  ·have a8:=jeV vk hlt
   have A:=jix ks p k;rcases (H.o.kid k hlt).at'.kid with⟨hn,hv⟩ |⟨hn,T,x,hv⟩
   ·rw[hn,if_pos rfl,bZ]at A
    rw[hv]at a8;have Z:=Hd A;clear A hn hv;subst K;go_wp2;go_roundw
    case rel=>exact⟨k+1,m,by omega,by go_num,by rw[Z.o];exact X.o⟩
    case measure=>exact vJ
   ·rw[hn,if_neg ff]at A
    rw[hv]at a8;have hq:=jdz T x;have O:=H.o.kid k hlt;rw[hv]at O;have a9:=O.at'.meth;have c7:∀ w,(Go.method (421+1) T x "guilloche/trie.entries").run Tryz.prog w=.ok (jgd (ks k),x) w:=a9.ent;have c8:=jeo (ks k);have c9:=jkB wr hlt;have a1:=b0.o k hn;have c0:sumF (fun i=>cntP (ks i)) k+cntP (ks k)<=sumF (fun i=>cntP (ks i)) 16:=by
     have h1:=jeA (fun i=>cntP (ks i)) (k+1) (15 - k);rw[show k+1+(15 - k)=16 by omega]at h1;exact h1
    have a0:=Hd (show ∀ wb,Ext wr wb->vQ (jgd (ks k)) #[x,.string (p++nib1 k),.slice a2 m c2] wb (EnP w0 (E++entK ks p k++entP (ks k) (p++nib1 k)))from fun wb e=>b3.o k hlt hn w0 wb T x (Dk k) (p++nib1 k) _ m (kk - 1) _ O (by rw[<-K];exact X.o.mono e) a1.2 (by rw[jc7];have:(nib1 k).size=1:=rfl;have:=a6.o;have:=a1.1;omega) (by have:=b9.o;have:=b7.o;omega));have Z:=Hd A;have b1:(k:Int) < 256:=vO
    have d0:p.size+(nib1 k).size<=900001:=by have:(nib1 k).size=1:=rfl;have:=a6.o;omega
    have b2:(k:Int) < 16:=vO
    clear A hn hv O a9 a1 c0;subst K;go_wp2_with fail
    refine (a0.o _ ((ExtR wr).alloc _)).mono ?_;rintro e w2 ⟨v2,m2,rfl,a4⟩;have c1:=Hd a4
    obtain⟨a3,c3,c4⟩:=a4.sl
    subst c4;clear a4;go_wp2_with fail
    go_roundw
    case rel=>exact⟨k+1,m2,by omega,by go_num,by rw[Z.o, <-cE];exact c1.o⟩
    case measure=>exact vJ
  ·obtain rfl:k=16:=vO
   subst K;go_wp2_with fail
   go_ret
   exact⟨_,_,rfl,X.o⟩
end
theorem job:∀ (P:PA),EntC P
 | .nil=>fun o W T x D p v n k E h _ _ _ _=>by cases h.at'
 | .no=>fun o W T x D p v n k E h A _ _ _=>by
  have e:Value.iface T x=noV:=h.at';unfold noV at e;injection e with e1 e2;subst e1 e2;show Calls _ _ _ W (EnP o (E++[]));rw[bZ];exact jx6 o W p v n E A
 | .leaf q u=>fun o W T x D p v n k E h A H K J=>by
  obtain⟨b,e,h1,O⟩:=h.at'
  unfold jjs at e;injection e with e1 e2;subst e1 e2;have H:q.size<=k:=H;have J:n+1<=100000:=J;exact jz3 o W q u p b O v n E A vO vO
 | .ext q m=>fun o W T x D p v n k E h A H K J=>by
  obtain⟨b,T',x',Dn,e,h1,O,Z,h4,h5⟩:=h.at'
  unfold extV at e;injection e with e1 e2;subst e1 e2;have J:n+(1+cntP m)<=100000:=J;have h1:=H.1;exact jzM o W q m T' x' Dn b O Z (fun z hz=>h.lt z (h5 z hz)) p v n (k - q.size) E A H.2 (by rw[jc7];omega) vO (job m)
 | .br u ks=>fun o W T x D p v n k E h A H K J=>by
  obtain⟨b,Q,X,e,h1,O,Z,h4⟩:=h.at'
  unfold brV at e;injection e with e1 e2;subst e1 e2;have hb:BrRd u ks b Q X o:=⟨O,fun i hi=>⟨(Z i hi).1,fun z hz=>h.lt z ((Z i hi).2.2 z hz)⟩⟩;have J:n+(1+sumF (fun i=>cntP (ks i)) 16)<=100000:=J;have ih:∀ i,i < 16->(ks i).isNil=false->EntC (ks i):=fun i _ _=>job (ks i);show Calls _ _ _ W (EnP o (E++((if u.size=0 then []else keyR p u)++entK ks p 16)));unfold keyR;rw[<-cE]
  by_cases hu:u.size=0
  ·rw[if_pos hu,bZ]
   cases ho:jdj p with
   | true=>exact juH o W u p ks b Q X hb v n k E A H K vO ih ho hu
   | false=>exact jrE o W u p ks b Q X hb v n k E A H K vO ih ho
  ·rw[if_neg hu]
   cases ho:jdj p with
   | true=>rw[if_pos rfl];exact juI o W u p ks b Q X hb v n k E A H K vO ih ho hu
   | false=>rw[if_neg ff,bZ];exact jrE o W u p ks b Q X hb v n k E A H K vO ih ho
section
attribute [local go_sem] Oper.semAt_some
def jgp(k:Key)(L:vT):vT:=L.map fun x=>if x.1=k then (x.1,x.2.1,putF 2 (x.2.2.used+1) x.2.2)else x
def jeI(T:vM)(L:vT):vT:=T.foldl (fun L r=>jgp r.data.toList L) L
theorem jqn(T:vM)(r:vB)(L:vT):jeI (T++[r]) L=jgp r.data.toList (jeI T L):=by unfold jeI;rw[dU];rfl
theorem jqm(k:Key)(L:vT):(jgp k L).map (·.1)=L.map (·.1):=by
 unfold jgp;rw[dN];refine dI (fun x _=>?_);simp only[Function.comp];split <;> rfl
theorem jql(k:Key)(L:vT):(jgp k L).map (·.2.1)=L.map (·.2.1):=by
 unfold jgp;rw[dN];refine dI (fun x _=>?_);simp only[Function.comp];split <;> rfl
theorem jg7:∀ (T:vM) (L:vT),(jeI T L).map (·.1)=L.map (·.1)
 | [],_=>rfl
 | r :: T,L=>by
  show (jeI T (jgp r.data.toList L)).map (·.1)=_;rw[jg7 T,jqm]
theorem jg6:∀ (T:vM) (L:vT),(jeI T L).map (·.2.1)=L.map (·.2.1)
 | [],_=>rfl
 | r :: T,L=>by
  show (jeI T (jgp r.data.toList L)).map (·.2.1)=_;rw[jg6 T,jql]
theorem joE{A B:vT}(h:A.map (·.1)=B.map (·.1))(k:Key):(atL A k).isSome=(atL B k).isSome:=by
 have e:∀ L:vT,(atL L k).isSome=(L.map (·.1)).any (fun y=>decide (k=y)):=fun L=>by
  unfold atL;rw[List.isSome_find?,List.any_map];rfl
 rw[e,e,h]
theorem jjB:∀ (T:vM) (L:vT) (lo hi:Int),(∀ x∈L,lo<=x.2.2.used/\x.2.2.used<=hi)->∀ x∈jeI T L,lo<=x.2.2.used/\x.2.2.used<=hi+T.length
 | [],L,lo,hi,h=>fun x e=>by have:=h x e;simp;exact this
 | r :: T,L,lo,hi,h=>fun x e=>by
  have:=jjB T (jgp r.data.toList L) lo (hi+1) (fun y o=>by
   obtain⟨z,A,rfl⟩:=bK.1 o
   have:=h z A
   split
   ·simp only[putF,if_true];omega
   ·omega) x e
  rw[bF];omega
def kvR(x:Nd5):Nat × vB × vM:=(x.2.1,x.2.2.text,x.2.2.refs)
def Like(W:vW)(bg:Nat)(G:vT):Prop:=∃ G',jdq W bg G'/\∀ k,(atL G' k).map kvR=(atL G k).map kvR
theorem juB(f c:Nat)(v:Int)(L:vT)(k:Key):atL (L.map (setB f c v)) k=(atL L k).map (setB f c v):=by
 unfold atL;rw[List.find?_map]
 congr 1
 refine congrFun (congrArg _ (funext fun x=>?_)) L;simp only[Function.comp,setB];split <;> rfl
theorem jvw(f c:Nat)(v:Int)(x:Nd5):kvR (setB f c v x)=kvR x:=by
 unfold setB kvR putF
 by_cases e:x.2.1=c
 ·rw[if_pos e]
  by_cases e2:f=2
  ·rw[if_pos e2]
  ·rw[if_neg e2]
 ·rw[if_neg e]
theorem Like.setF{W:vW}{bg:Nat}{G:vT}(h:Like W bg G){c:Nat}{it:It}(hc:jeZ W c it){f:Nat}(hf:f=2\/f=3)(v:Int):Like (W.setCell ⟨c,f,none⟩ (.int .i64 v)) bg G:=by
 obtain⟨A,e,o⟩:=h
 refine⟨_,e.setF hc hf v,fun k=>?_⟩
 rw[juB,Option.map_map, <-o k]
 congr 1
 funext x
 exact jvw f c v x
theorem jtX{W:vW}{bm:Nat}{L:vT}(h:jdq W bm L){k:Key}{y:Nd5}(hy:atL L k=some y):L.map (setB 2 y.2.1 (y.2.2.used+1))=jgp k L:=by
 obtain⟨J,K,_,E⟩:=h.mp
 have o:=E.keys;rw[dN]at o;have o:(L.map (·.1)).Nodup:=o;unfold jgp;refine dI (fun x A=>?_);unfold setB
 by_cases e:x.2.1=y.2.1
 ·have:x=y:=jbH h.blks A (jba hy).1 e
  subst this;rw[if_pos rfl,if_pos (jba hy).2]
 ·rw[if_neg e,if_neg]
  intro H
  have:x=y:=jbH o A (jba hy).1 (H.trans (jba hy).2.symm)
  subst this;exact e rfl
structure Ad2(w5:World)(s bm bg:Nat)(room:Int)(S1 G:vT)(F:vM)(v:Value)(T:vM)(W:World):Prop where
 kp:jae (fun z=>z∈S1.map (·.2.1)) w5 W
 st:jaT W s bm room (jeI T S1)
 gv:Like W bg G
 row:W.ownsRow 0 9 1 v F.length (F.map Value.string)
theorem Ad2.bump{w5:vW}{s bm bg:Nat}{room:Int}{S1 G:vT}{F:vM}{v:vV}{T:vM}{W:vW}(h:Ad2 w5 s bm bg room S1 G F v T W)
  (hu:∀ x∈S1,0<=x.2.2.used/\x.2.2.used<=1000000000) (hT:T.length<=1000000) (r:vB) (hr:(atL S1 r.data.toList).isSome=true) :
  ∃ (zb:Nat) (u:Int),(Instr.lookup 81 (.map (some bm)) (.string r) false).run Tryz.prog W=.ok (.pointer (some ⟨zb,0,none⟩)) W/\W.cell? ⟨zb,2,none⟩=some (.int .i64 u)/\W.frozen? ⟨zb,2,none⟩=false/\0<=u/\u<=2000000000 /\
   Ad2 w5 s bm bg room S1 G F v (T++[r]) (W.setCell ⟨zb,2,none⟩ (.int .i64 (u+1)))/\∀ E n xs,W.ownsRow 0 9 1 E n xs->(W.setCell ⟨zb,2,none⟩ (.int .i64 (u+1))).ownsRow 0 9 1 E n xs:=by
 have X:(atL (jeI T S1) r.data.toList).isSome=true:=by rw[joE (jg7 T S1)];exact hr
 obtain⟨y,J⟩:=fG.1 X
 have o:=(jba J).1;have K:=h.st.mp.items y o
 obtain⟨E,hb,Z⟩:=K.cells
 have A:=h.st.mp.look r false;rw[J]at A;simp only[cR,if_false]at A;have H:jae (fun z=>z=y.2.1) W (W.setCell ⟨y.2.1,2,none⟩ (.int .i64 (y.2.2.used+1))):=jae.oneSet W ⟨y.2.1,2,none⟩ _;have hN:jjm W (fun z=>z=y.2.1):=fun z a0 fz e hz=>by
  have e:z=y.2.1:=e;subst e
  have:=hb.uniq hz;injection this with _ h2;exact absurd h2 vI
 have O:y.2.1∈S1.map (·.2.1):=by rw[<-jg6 T S1];exact bK.2 ⟨y,o,rfl⟩
 have Q:=jjB T S1 0 1000000000 hu y o
 refine⟨y.2.1,y.2.2.used,A,hb.cell (i:=2) vF,hb.frozen,Q.1,by omega,⟨h.kp.trans (H.mono (fun z _ e=>by have e:z=_:=e;rw[e];exact O)),⟨h.st.st.keeps H (fun e=>?_),?_⟩,h.gv.setF K (.inl rfl) _,jgR h.row H hN⟩,fun E n xs hx=>jgR hx H hN⟩
 ·have e:s=y.2.1:=e
  rw[e]at h
  have:=hb.uniq h.st.st;injection this with _ h2;exact absurd h2 vI
 ·rw[jqn, <-jtX h.st.mp J]
  exact h.st.mp.setF K (.inl rfl) _
def jkx(k:Key)(L:vT):vT:=L.map fun x=>if x.1=k then (x.1,x.2.1,putF 3 (x.2.2.held+1) x.2.2)else x
theorem jq4{W:vW}{bm:Nat}{L:vT}(h:jdq W bm L){k:Key}{y:Nd5}(hy:atL L k=some y):L.map (setB 3 y.2.1 (y.2.2.held+1))=jkx k L:=by
 obtain⟨J,K,_,E⟩:=h.mp
 have o:=E.keys;rw[dN]at o;have o:(L.map (·.1)).Nodup:=o;unfold jkx;refine dI (fun x A=>?_);unfold setB
 by_cases e:x.2.1=y.2.1
 ·have:x=y:=jbH h.blks A (jba hy).1 e
  subst this;rw[if_pos rfl,if_pos (jba hy).2]
 ·rw[if_neg e,if_neg]
  intro H
  have:x=y:=jbH o A (jba hy).1 (H.trans (jba hy).2.symm)
  subst this;exact e rfl
theorem jjA:∀ (T:vM) (L:vT) (lo hi:Int),(∀ x∈L,lo<=x.2.2.held/\x.2.2.held<=hi)->∀ x∈jeI T L,lo<=x.2.2.held/\x.2.2.held<=hi
 | [],L,lo,hi,h=>fun x e=>h x e
 | r :: T,L,lo,hi,h=>fun x e=>by
  refine jjA T (jgp r.data.toList L) lo hi (fun y o=>?_) x e
  obtain⟨z,A,rfl⟩:=bK.1 o
  have:=h z A
  split
  ·simp only[putF,if_true];exact this
  ·exact this
theorem Ad2.hold{w5:vW}{s bm bg:Nat}{room:Int}{S1 G:vT}{F:vM}{v:vV}{T:vM}{W:vW}(h:Ad2 w5 s bm bg room S1 G F v T W)
  (hu:∀ x∈S1,0<=x.2.2.held/\x.2.2.held<=1000000000) (r:vB) (hr:(atL S1 r.data.toList).isSome=true) :
  ∃ (zb:Nat) (u:Int),(Instr.lookup 81 (.map (some bm)) (.string r) false).run Tryz.prog W=.ok (.pointer (some ⟨zb,0,none⟩)) W/\W.cell? ⟨zb,3,none⟩=some (.int .i64 u)/\W.frozen? ⟨zb,3,none⟩=false/\0<=u/\u<=1000000000 /\
   jaT (W.setCell ⟨zb,3,none⟩ (.int .i64 (u+1))) s bm room (jkx r.data.toList (jeI T S1))/\jae (fun z=>z∈S1.map (·.2.1)) w5 (W.setCell ⟨zb,3,none⟩ (.int .i64 (u+1))):=by
 have Q:(atL (jeI T S1) r.data.toList).isSome=true:=by rw[joE (jg7 T S1)];exact hr
 obtain⟨y,H⟩:=fG.1 Q
 have o:=(jba H).1;have K:=h.st.mp.items y o
 obtain⟨Z,hb,X⟩:=K.cells
 have A:=h.st.mp.look r false;rw[H]at A;simp only[cR,if_false]at A;have O:jae (fun z=>z=y.2.1) W (W.setCell ⟨y.2.1,3,none⟩ (.int .i64 (y.2.2.held+1))):=jae.oneSet W ⟨y.2.1,3,none⟩ _;have J:y.2.1∈S1.map (·.2.1):=by rw[<-jg6 T S1];exact bK.2 ⟨y,o,rfl⟩
 have E:=jjA T S1 0 1000000000 hu y o
 refine⟨y.2.1,y.2.2.held,A,hb.cell (i:=3) vF,hb.frozen,E.1,E.2,⟨h.st.st.keeps O (fun e=>?_),?_⟩,h.kp.trans (O.mono (fun z _ e=>by have e:z=_:=e;rw[e];exact J))⟩
 ·have e:s=y.2.1:=e
  rw[e]at h
  have:=hb.uniq h.st.st;injection this with _ h2;exact absurd h2 vI
 ·rw[<-jq4 h.st.mp H]
  exact h.st.mp.setF K (.inr rfl) _
def jc0(G:vT)(F:vM):vT:=F.filterMap fun x=>atL G x.data.toList
theorem jqR{G:vT}{F:vM}{i:Nat}{x:vB}{y:Nd5}(hx:F[i]?=some x)(hy:atL G x.data.toList=some y):jc0 G (F.take (i+1))=jc0 G (F.take i)++[y]:=by
 unfold jc0;rw[bW,hx,List.filterMap_append];simp[hy]
theorem jb7{G:vT}{F:vM}{y:Nd5}(h:y∈jc0 G F):y∈G/\∃ x∈F,y.1=x.data.toList:=by
 obtain⟨x,o,e⟩:=List.mem_filterMap.1 h
 exact⟨(jba e).1,x,o,(jba e).2⟩
theorem jxj{A B:vT}{k:Key}(h:∀ x∈B,k≠x.1):atL (A++B) k=atL A k:=by
 unfold atL;rw[List.find?_append]
 have:B.find? (fun x=>decide (k=x.1))=none:=by rw[List.find?_eq_none];simpa using h
 rw[this];simp
theorem jdq.notRow{W:vW}{bm:Nat}{L:vT}(h:jdq W bm L):jjm W (fun z=>z=bm):=fun z o H e A=>by
 obtain⟨J,K,E,_⟩:=h.mp
 have e:z=bm:=e;subst e
 have:=E.uniq A;cases this
structure Ad1(w4:World)(s bm bg:Nat)(room:Int)(S G:vT)(F:vM)(v:Value)(i:Nat)(W:World):Prop where
 kp:jae (fun z=>z=bm) w4 W
 st:jaT W s bm room (S++jc0 G (F.take i))
 gv:jdq W bg G
 row:W.ownsRow 0 9 1 v F.length (F.map Value.string)
theorem Ad1.ext{w4:vW}{s bm bg:Nat}{room:Int}{S G:vT}{F:vM}{v:vV}{i:Nat}{W W':vW}(h:Ad1 w4 s bm bg room S G F v i W)(e:Ext W W'):Ad1 w4 s bm bg room S G F v i W':=
 ⟨h.kp.trans (e.mono (fun _ _ g=>g.elim)),h.st.ext e,h.gv.ext e,jbq h.row e⟩
theorem Ad1.put{w4:vW}{s bm bg:Nat}{room:Int}{S G:vT}{F:vM}{v:vV}{i:Nat}{W:vW}(h:Ad1 w4 s bm bg room S G F v i W)
  (hSG:∀ x∈S,∀ y∈G,x.2.1≠y.2.1) (hbg:bg≠bm) (hv:∀ z,v.ownBlock=some z->z≠bm) (hnd:F.Nodup) (hFS:∀ x∈F,atL S x.data.toList=none)
  {x:vB} {y:Nd5} (hx:F[i]?=some x) (hy:atL G x.data.toList=some y) :
  ∃ o,(Instr.mapUpdate 81 (.map (some bm)) (.string x) (.pointer (some ⟨y.2.1,0,none⟩))).run Tryz.prog W=.ok () (W.putObj bm o)/\Ad1 w4 s bm bg room S G F v (i+1) (W.putObj bm o):=by
 have hk:∀ z∈jc0 G (F.take i),x.data.toList≠z.1:=fun z A e=>by
  obtain⟨_,x',O,e'⟩:=jb7 A
  have:=jnE (e.trans e')
  subst this;exact jj1 hnd hx O
 have hn:atL (S++jc0 G (F.take i)) x.data.toList=none:=by rw[jxj hk];exact hFS x (bI hx)
 have E:=(jba hy).1;have H:=(jba hy).2;have J:∀ z∈S++jc0 G (F.take i),z.2.1≠y.2.1:=fun z A e=>by
  rcases bU.1 A with A | A
  ·exact hSG z A y E e
  ·have:=jbH h.gv.blks (jb7 A).1 E e
   subst this;exact hk z A H.symm
 obtain⟨o,Q,hA⟩:=h.st.mp.put x hn (h.gv.items y E) J
 have K:jae (fun z=>z=bm) W (W.putObj bm o):=jae.onePut W bm o;have hN:=h.st.mp.notRow;have X:∀ {c:Nat} {it:It},jeZ W c it->¬ c=bm:=fun hi e=>by
  obtain⟨_,hc,_⟩:=hi.cells
  obtain⟨es,ck,Z,_⟩:=h.st.mp.mp
  subst e
  have:=Z.uniq hc;cases this
 refine⟨o,Q,h.kp.trans K,⟨h.st.st.keeps K (fun e=>?_),?_⟩,h.gv.keeps K hbg (fun z A=>X (h.gv.items z A)) hN,ja8 h.row K (fun z A e=>hv z A e)⟩
 ·have e:s=bm:=e
  obtain⟨es,ck,Z,_⟩:=h.st.mp.mp
  subst e
  have:=Z.uniq h.st.st;cases this
 ·rw[jqR hx hy, <-cE]
  have e:(x.data.toList,y.2.1,y.2.2)=y:=by rw[<-H]
  rw[e]at hA;exact hA
theorem jzq(A B:vT)(k:Key):(atL (A++B) k).isSome=((atL A k).isSome ||(atL B k).isSome):=by
 unfold atL;rw[List.find?_append,Option.isSome_or]
def AdR2(w5:vW)(s bm bg:Nat)(room:Int)(S1 G:vT)(F:vM)(v iv:vV)(W:vW):Prop:=∃ i:Nat,i<=F.length/\iv=.int .i64 i/\Ad2 w5 s bm bg room S1 G F v ((F.take i).flatMap (jce G)) W
def AdR3(w5:vW)(s bm bg:Nat)(room:Int)(S1 G:vT)(F:vM)(v:vV)(T R:vM)(rv jv:vV)(W:vW):Prop:=∃ j:Nat,j<=R.length/\jv=.int .i64 j/\Ad2 w5 s bm bg room S1 G F v (T++R.take j) W/\W.ownsRow 0 9 1 rv R.length (R.map Value.string)
def AdR1(w4:vW)(s bm bg:Nat)(room:Int)(S G:vT)(F:vM)(v iv:vV)(W:vW):Prop:=∃ i:Nat,i<=F.length/\iv=.int .i64 i/\Ad1 w4 s bm bg room S G F v i W
def InjL(l:vM):Prop:=∀ x∈l,∀ y∈l,shaB x=shaB y->x=y
theorem InjL.step{L:vM}{i:Nat}{t:vB}(h:InjL (L.take i))(ht:L[i]?=some t)(hs:∀ x∈L.take i,shaB x=shaB t->x=t):InjL (L.take (i+1)):=by
 intro x o y A e;rw[bW,ht]at o A;rcases bU.1 o with h1 | h1 <;> rcases bU.1 A with h2 | h2
 ·exact h x h1 y h2 e
 ·simp at h2;subst h2;exact hs x h1 e
 ·simp at h1;subst h1;exact (hs y h2 e.symm).symm
 ·simp at h1 h2;rw[h1,h2]
def ApR1(w:vW)(L:vM)(hv iv:vV)(W:vW):Prop:=∃ i:Nat,i<=L.length/\iv=.int .i64 i/\SRow w W hv i ((L.take i).map shaB)/\InjL (L.take i)
def ApR2(w4:vW)(L:vM)(t:vB)(i:Nat)(kv:vV)(W:vW):Prop:=∃ k:Nat,k<=i/\kv=.int .i64 k/\Ext w4 W/\∀ x∈L.take k,shaB x=shaB t->x=t
def ApP(L:vM)(w:vW)(e:Ending)(w':vW):Prop:=∃ b,e=.returned (.bool b)/\(b=true↔InjL L)/\Ext w w'
theorem jnz(w:vW)(hc:jb0 w)(v:vV)(L:vM)(hv:RdS w v L)(hl:L.length<=1000000):vQ 18 #[v] w (ApP L w):=by
 obtain⟨a,c,rfl,_⟩:=hv.slice
 have HV:=Hd hv;have HC:=Hd hc;clear hv hc;unfold vQ;go_in;go_wp2_with fail
 go_loopw [3,4] (fun hv iv wr=>ApR1 w L hv iv wr) (fun _ iv _=>L.length - (intOf iv).toNat)
 case atStart=>exact⟨0,cD _,rfl,ORow.nil _ _ (ExtR w),fun x O=>by cases O⟩
 case round =>
  obtain⟨i,hi,rfl,hR,hI⟩:=hrel
  obtain⟨ah,ch,rfl⟩:=hR.sl
  have HR:=Hd hR;have HI:=Hd hI;clear hR hI
  by_cases hlt:i < L.length
  ·have b1:(i:Int) < (L.length:Int):=vO
   obtain⟨t,ht⟩:∃ t,L[i]?=some t:=⟨_,bA hlt⟩
   obtain⟨ax,cx,hh,A⟩:=HV.o.slice
   obtain⟨ba,oa,b0,Z⟩:=A i t ht
   subst b0;cases hh;have q1:=jaa Z HR.o.ext;have HT:=Hd ht;have b4:=Hd Z;have b5:=Hd (show ∀ (j:Nat) x,L[j]?=some x->w.cell? ⟨ba,oa+j,none⟩=some (.string x)from fun j x O=>by
    obtain⟨b',o',e,h⟩:=A j x O
    cases e;exact h)
   clear A Z ht;go_wp2_with fail
   refine vH (of_t _ _ [t] (by simp) (jb2 wr [t] 9) (HC.o.ext (HR.o.ext.alloc _))) fun w4 hE=>?_;rw[jdx];have a0:=((ExtR wr).alloc (.cells #[.string t] 9)).trans hE;have a1:=Hd (HR.o.mono a0);have a2:=Hd (HR.o.ext.trans a0)
   obtain⟨sh,a3⟩:=vE (shaB t)
   have a4:=Hd a3;rw[<-a3];clear a0 a3 q1 HR;go_wp2_with fail
   go_loopw [6] (fun kv b6=>ApR2 w4 L t i kv b6) (fun kv _=>i - (intOf kv).toNat)
   case atStart=>exact⟨0,cD _,rfl,ExtR w4,fun x O=>by cases O⟩
   case round =>
    obtain⟨k,hk,rfl,hE,hs⟩:=hrel
    have J:=Hd hE;have HS:=Hd hs;clear hE hs
    by_cases hlt2:k < i
    ·have b2:(k:Int) < (i:Int):=vO
     have b3:(k:Int) < (L.length:Int):=vO
     obtain⟨x,O⟩:∃ x,L[k]?=some x:=⟨_,bA vO⟩
     have Q:((L.take i).map shaB)[k]?=some (shaB x):=by rw[bX,List.getElem?_take,if_pos hlt2,O];rfl
     have a8:=jj4 a1.o.own;have E:∃ bh oh,ah=some ⟨bh,oh,none⟩/\w4.cell? ⟨bh,oh+k,none⟩=some (.string (shaB x)):=by
      rcases a8 with⟨_,_,_,h0⟩ |⟨bq,oq,cq,hh,_,_,A⟩
      ·rw[h0]at Q;cases Q
      ·exact⟨bq,oq,(cN hh).1,A k _ Q⟩
     obtain⟨bh,oh,rfl,E⟩:=E
     obtain⟨sx,a5⟩:=vE (shaB x)
     rw[<-a5]at E;have a9:=Hd a5;have Q1:=Hd (jaa E J.o);have Q2:=Hd (jaa (b5.o k x O) (a2.o.trans J.o));have Q3:=Hd (jaa b4.o (a2.o.trans J.o));have HX:=Hd O;clear O Q a8 E a5;go_wp2_with fail
     refine jag [0,1,2,3,4,5,6,7,8,9,10,11,12,13,14,15,16] Ext ExtR ExtT vY vY vY ?_;iterate 3 refine vK ?_
     refine qKL ⟨bh,oh+k,none⟩ _ rfl (fun w1 H=>jab Tryz.underlying9 rfl (jaa Q1.o ((jai _).trans H))) ?_;refine vS ?_;iterate 3 refine vK ?_
     cases hq:(sx.toList == sh.toList)with
     | false =>
      have HN:=Hd (show shaB x=shaB t->x=t from fun e=>by
       rw[<-a9.o, <-a4.o]at e;rw[e]at hq;simp at hq)
      clear hq;iterate 9 (refine qKS _ rfl ?_;refine vS ?_)
      refine vK ?_
      refine qKE (fun w5 X=>?_);have K:=Hd (J.o.trans ((jai _).trans X));have a6:=Hd (show ∀ z∈L.take (k+1),shaB z=shaB t->z=t from fun z hz e=>by
       rw[bW,HX.o]at hz;rcases bU.1 hz with H | H
       ·exact HS.o z H e
       ·simp at H;subst H;exact HN.o e)
      clear X Q1 Q2 Q3 J HS;go_wp2_with fail
      go_roundw
      case rel=>exact⟨k+1,by omega,by go_num,K.o,a6.o⟩
      case measure=>exact vJ
     | true =>
      have b7:=Hd (show shaB x=shaB t by rw[<-a9.o, <-a4.o];exact jdJ (by simpa using hq));clear hq;iterate 3 refine vK ?_
      refine qKL ⟨ba,oa+k,none⟩ _ rfl (fun w1 H=>jab Tryz.underlying9 rfl (jaa Q2.o ((jai _).trans H))) ?_;refine vS ?_;iterate 3 refine vK ?_
      refine qKL ⟨ba,oa+i,none⟩ _ rfl (fun w1 H=>jab Tryz.underlying9 rfl (jaa Q3.o ((jai _).trans H))) ?_;refine vS ?_
      refine vK ?_
      cases E:(x.toList == t.toList)with
      | true =>
       have HN:Hid (x=t):=(jdJ (by simpa using E));have hb:(!true)=false:=rfl;clear E;rw[hb]
       refine vK ?_
       refine qKE (fun w5 X=>?_);have K:=Hd (J.o.trans ((jai _).trans X));have a6:=Hd (show ∀ z∈L.take (k+1),shaB z=shaB t->z=t from fun z hz e=>by
        rw[bW,HX.o]at hz;rcases bU.1 hz with H | H
        ·exact HS.o z H e
        ·simp at H;subst H;exact HN.o)
       clear X Q1 Q2 Q3 J HS hb;go_wp2_with fail
       go_roundw
       case rel=>exact⟨k+1,by omega,by go_num,K.o,a6.o⟩
       case measure=>exact vJ
      | false =>
       have hb:(!false)=true:=rfl;have b8:=Hd (show ¬ InjL L from fun h=>by
        have:=h x (bI HX.o) t (bI HT.o) b7.o
        rw[this]at E;simp at E)
       clear E;rw[hb]
       refine vK ?_
       refine qKE (fun w5 X=>?_);have K:=Hd (J.o.trans ((jai _).trans X));clear X Q1 Q2 Q3 J HS hb;go_wp2_with fail
       go_ret
       exact⟨false,rfl,⟨fun e=>(by cases e),fun h=>absurd h b8.o⟩,a2.o.trans K.o⟩
    ·have b9:k=i:=vO
     subst b9;have c0:=Hd (HI.o.step HT.o HS.o);have c1:=Hd (a1.o.mono J.o);have c2:=Hd (show (L.take (k+1)).map shaB=(L.take k).map shaB++[sh] by rw[bW,HT.o,cB,a4.o];rfl);have c3:k+1<=maxLen:=by unfold maxLen;omega
     have c4:(k+1) * 16<=140737488355328:=vO
     clear HS HI J a1;go_wp2_with (at_builtin;refine jaO Tryz.sStrs (c1.o.mono ((ExtR wr).alloc _)) (.tmp 41) (.tmp 43) rfl rfl rfl (jaJ (Blk.new wr _)) (news:=[.string sh]) (by intro u hu;simp at hu;rcases hu with rfl;rfl) rfl rfl c3 c4 ?_;intro v' w' r1 r2 r3)
     have a7:SRow w w' v' (k+1) ((L.take (k+1)).map shaB):=by unfold SRow;rw[c2.o,cB];exact r1
     obtain⟨c8,c9,rfl⟩:=a7.sl
     have c5:=Hd a7;clear r1 r2 r3 a7;go_wp2_with fail
     go_roundw
     case rel=>exact⟨k+1,by omega,by go_num,c5.o,c0.o⟩
     case measure=>exact vJ
  ·have c6:i=L.length:=vO
   have c7:=Hd (show InjL L by have:=HI.o;rwa [c6,cL]at this);clear HI;go_wp2_with fail
   go_ret
   exact⟨true,rfl,⟨fun _=>c7.o,fun _=>rfl⟩,HR.o.ext⟩
end
