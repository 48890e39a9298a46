/- Lemmas; each is under no condition but those that it states. -/
import Derived.Test.YtepbencaoiompaaGreatDoorPa22
import Derived.Stop.Asserts
namespace Go.Proofs.YtepbencaoiompaaGreatDoor
set_option linter.unusedSimpArgs false
set_option linter.unusedVariables false
set_option maxRecDepth 100000
set_option maxHeartbeats 16000000
open Go Go.RowKit
def jbp(P:PA)(d:Chg):PA:=if d.gone then jbn P (jaM d.key)else putP P (jaM d.key) d.value
def jmE(q:vN)(o:Option vB)(c:Chg):Option vB:=if q=(jaM c.key).data.toList then c.o else o
theorem jum{P:PA}(hP:P=.no\/CanP P){c:Chg}(hc:c.bad=false):(jbp P c=.no\/CanP (jbp P c))/\∀ q,getL (jbp P c) q=jmE q (getL P q) c:=by
 have z:=jbL c.key;unfold jbp jmE Chg.o;cases hg:c.gone with
 | true =>
  rw[if_pos rfl,if_pos rfl];rcases hP with rfl | hP
  ·refine⟨.inl rfl,fun q=>?_⟩
   show none=if q=_ then none else none
   split <;> rfl
  ·exact jnW P hP _ z
 | false =>
  rw[if_neg ff,if_neg ff];have A:c.value.size≠0:=by
   unfold Chg.bad at hc;rw[hg]at hc;simp only[Bool.false_and,Bool.or_false,Bool.not_false,Bool.true_and,gN,Bool.not_eq_false']at hc;have E:=hc.2;unfold jcT at E
   have:=of_decide_eq_true E;omega
  have e:CanP P\/P=.no\/P=.nil:=by
   rcases hP with h | h
   ·exact .inr (.inl h)
   ·exact .inl h
  exact⟨.inr (jnP P e _ _ z A),jn4 P e _ _ A⟩
theorem jsD:∀ (cs:List Chg) (P:PA),(P=.no\/CanP P)->cs.any Chg.bad=false->(cs.foldl jbp P=.no\/CanP (cs.foldl jbp P))/\∀ q,getL (cs.foldl jbp P) q=cs.foldl (jmE q) (getL P q)
 | [],P,hP,_=>⟨hP,fun _=>rfl⟩
 | c :: cs,P,hP,hb=>by
  rw[List.any_cons,gN]at hb
  obtain⟨e,o⟩:=jum hP hb.1
  obtain⟨z,A⟩:=jsD cs _ e hb.2
  refine⟨z,fun q=>?_⟩
  rw[fI,A,o,fI]
theorem jtO{a b:vB}(h:jaM a=jaM b):a=b:=by rw[<-jfR a,h,jfR]
theorem jqZ(k:vB):jmE (jaM k).data.toList=jmD k.data.toList:=by
 funext o c
 unfold jmE jmD Chg.o
 by_cases e:k.data.toList=c.key.data.toList
 ·rw[if_pos e,if_pos (by rw[jck e])]
 ·rw[if_neg e,if_neg (fun h=>e (by rw[jtO (jck h)]))]
theorem jj3{q:vN}(h:∀ k,q≠(jaM k).data.toList)(o:Option vB):∀ cs:List Chg,cs.foldl (jmE q) o=o
 | []=>rfl
 | c :: cs=>by
  have e:jmE q o c=o:=by unfold jmE;rw[if_neg (h c.key)]
  rw[fI,e,jj3 h o cs]
theorem jlI(k:vB):∀ l:vL,valL l k=look l k.data.toList
 | []=>rfl
 | q :: r=>by
  rw[jbl];show (if q.1=k then some q.2 else valL r k)=_
  by_cases e:q.1=k
  ·rw[if_pos e,if_pos (by rw[<-e])]
  ·rw[if_neg e,if_neg (fun h=>e (jck h.symm)),jlI k r]
theorem jpK{l:vL}(h:jav 12 l):ja2 13 l=.no\/CanP (ja2 13 l):=by
 by_cases h0:l.length=0
 ·exact .inl (jcd _ h0)
 ·exact .inr (jpJ 12 l h (fun e=>h0 (by rw[e];rfl))).1
theorem jvB{l m:vL}(hl:jaD l=0)(hm:jaD m=0){cs:List Chg}(h:jlR l m cs):cs.foldl jbp (ja2 13 (jaO l))=ja2 13 (jaO m):=by
 have o:=jbt (jaE hl);have A:=jbt (jaE hm)
 obtain⟨E,H⟩:=jsD cs _ (jpK o) h.fine
 refine jtM A E fun p J=>?_;rw[H,jli 12 _ o p J]
 by_cases hk:∃ k,p=jaM k
 ·obtain⟨k,rfl⟩:=hk
  rw[jqZ,jqh,jqh,jlI,jlI];exact h.looks k.data.toList
 ·have K:∀ k,p.data.toList≠(jaM k).data.toList:=fun k e=>hk ⟨k,jck e⟩
  have z:∀ r:vL,valL (jaO r) p=none:=fun r=>jg3 fun q O e=>by
   obtain⟨x,_,rfl⟩:=bI.1 O
   exact hk ⟨x.1,e.symm⟩
  rw[jj3 K,z,z]
def Dp:PA->Nat->Prop
 | .nil,_=>True
 | .no,_=>True
 | .leaf q _,n=>q.size<=n
 | .ext q m,n=>q.size<=n/\Dp m (n - q.size)
 | .br _ ks,n=>∀ i,(ks i).isNil=false->1<=n/\Dp (ks i) (n - 1)
theorem jbO:∀ (P:PA) (n m:Nat),Dp P n->n<=m->Dp P m
 | .nil,_,_,_,_=>trivial
 | .no,_,_,_,_=>trivial
 | .leaf q _,n,m,h,k=>bH (show q.size<=n from h) k
 | .ext q x,n,m,h,k=>⟨bH h.1 k,jbO x _ _ h.2 vO⟩
 | .br _ ks,n,m,h,k=>fun i e=>⟨bH (h i e).1 k,jbO (ks i) _ _ (h i e).2 vO⟩
theorem jge{a:vB}{P:PA}{n:Nat}(h:Dp P (n - a.size))(ha:a.size<=n):Dp (jbX a P) n:=by
 unfold jbX
 by_cases h0:a.size=0
 ·rw[if_pos h0];exact jbO P _ _ h vO
 rw[if_neg h0];cases P with
 | nil=>trivial
 | no=>trivial
 | leaf q v =>
  have h:q.size<=n - a.size:=h;show (a++q).size<=n;rw[jdi];omega
 | ext q m =>
  have e:=h.1
  refine⟨by rw[jdi];omega,?_⟩
  rw[jdi];exact jbO m _ _ h.2 vO
 | br v ks=>exact⟨ha,h⟩
theorem jiA{v:vB}{ks:Nat->PA}{n:Nat}(h:Dp (.br v ks) n){i:Nat}{P:PA}(h1:1<=n)(hP:Dp P (n - 1))(u:vB):Dp (.br u (setK ks i P)) n:=by
 intro j o
 by_cases e:j=i
 ·rw[e,jbz];exact⟨h1,hP⟩
 ·rw[jcS _ _ e]at o ⊢;exact h j o
theorem jiz{v:vB}{ks:Nat->PA}{n:Nat}(h:Dp (.br v ks) n){p:vB}(hp:p.size<=n)(u:vB):Dp (addK (.br v ks) p u) n:=by
 rw[jce]
 by_cases h0:p.size=0
 ·rw[if_pos h0];exact h
 ·rw[if_neg h0]
  refine jiA h vO ?_ v;show (jbq p).size<=n - 1;unfold jbq;rw[jaV];omega
theorem jh3(v:vB)(n:Nat):Dp (.br v fun _=>.nil) n:=fun i e=>by cases e
theorem jfh(a b:vB):jam a b<=a.size/\jam a b<=b.size:=by
 have:=jbe a.data.toList b.data.toList
 unfold jam;rw[<-jaI, <-jaI];exact this.2
theorem jml:∀ (P:PA) (n:Nat) (p u:vB),Dp P n->p.size<=n->Dp (putP P p u) n
 | .nil,_,p,u,_,hp=>hp
 | .no,_,p,u,_,hp=>hp
 | .leaf q v,n,p,u,h,hp=>by
  have h:q.size<=n:=h
  obtain⟨A,E⟩:=jfh q p
  unfold putP
  by_cases e:p=q
  ·rw[if_pos e];exact hp
  rw[if_neg e];have z:(p.extract 0 (jam q p)).size=jam q p:=by rw[cL];omega
  refine jge ?_ vO;rw[z];have o:=jiz (jh3 ⟨#[]⟩ (n - jam q p)) (p:=q.extract (jam q p) q.size) (by rw[jaV];omega) v;rw[jce]at o ⊢
  by_cases h0:(q.extract (jam q p) q.size).size=0
  ·rw[if_pos h0]at o ⊢
   exact jiz o (by rw[jaV];omega) u
  ·rw[if_neg h0]at o ⊢
   exact jiz o (by rw[jaV];omega) u
 | .ext q x,n,p,u,h,hp=>by
  obtain⟨A,E⟩:=jfh q p
  unfold putP
  by_cases e:jam q p=q.size
  ·rw[if_pos e]
   refine jge (jml x _ _ u h.2 ?_) h.1;rw[jaV];omega
  ·rw[if_neg e]
   have z:(p.extract 0 (jam q p)).size=jam q p:=by rw[cL];omega
   refine jge ?_ vO;rw[z];have H:=h.1;refine jiz (jiA (jh3 ⟨#[]⟩ _) vO (jge ?_ ?_) _) (by rw[jaV];omega) u
   ·rw[jaV]
    exact jbO x _ _ h.2 vO
   ·rw[jaV];omega
 | .br v ks,n,p,u,h,hp=>by
  unfold putP
  by_cases h0:p.size=0
  ·rw[if_pos h0];exact h
  ·rw[if_neg h0]
   refine jiA h vO (jml (ks (jap p)) (n - 1) _ u ?_ ?_) v
   ·cases hn:(ks (jap p)).isNil with
    | true=>rw[jbw hn];trivial
    | false=>exact (h _ hn).2
   ·unfold jbq;rw[jaV];omega
theorem jo7{v:vB}{ks:Nat->PA}{n:Nat}(h:Dp (.br v ks) n):Dp (jcF v ks) n:=by
 have o:∀ i∈idxK ks,(ks i).isNil=false:=fun i q=>by
  have:=(cN.1 q).2
  simpa using this
 unfold jcF;cases e:idxK ks with
 | nil =>
  show Dp (if v.size=0 then PA.no else .leaf ⟨#[]⟩ v) n
  by_cases h0:v.size=0
  ·rw[if_pos h0];trivial
  ·rw[if_neg h0];exact bY n
 | cons i r =>
  cases r with
  | nil =>
   show Dp (if v.size=0 then jbX ⟨#[UInt8.ofNat i]⟩ (ks i)else .br v ks) n
   by_cases h0:v.size=0
   ·rw[if_pos h0]
    obtain⟨z,A⟩:=h i (o i (by rw[e];exact bD))
    exact jge A z
   ·rw[if_neg h0];exact h
  | cons j r=>exact h
theorem jhk:∀ (P:PA) (n:Nat) (p:vB),Dp P n->Dp (jbn P p) n
 | .nil,_,_,_=>trivial
 | .no,_,_,_=>trivial
 | .leaf q v,n,p,h=>by
  unfold jbn
  by_cases e:p=q
  ·rw[if_pos e];trivial
  ·rw[if_neg e];exact h
 | .ext q x,n,p,h=>by
  unfold jbn;cases preB q p with
  | false=>rw[if_neg ff];exact h
  | true=>rw[if_pos rfl];exact jge (jhk x _ _ h.2) h.1
 | .br v ks,n,p,h=>by
  unfold jbn
  by_cases h0:p.size=0
  ·rw[if_pos h0];exact jo7 h
  ·rw[if_neg h0]
   cases hn:(ks (jap p)).isNil with
   | true=>rw[if_pos rfl];exact h
   | false =>
    rw[if_neg ff]
    obtain⟨o,z⟩:=h _ hn
    refine jo7 (jiA h o ?_ v)
    have:=jhk (ks (jap p)) (n - 1) (jbq p) z
    unfold unNo;cases (jbn (ks (jap p)) (jbq p)).isNo with
    | true=>rw[if_pos rfl];trivial
    | false=>rw[if_neg ff];exact this
theorem jtJ:∀ (f:Nat) (l:vL) (k:Nat),jav f l->jav k l->Dp (ja2 (f+1) l) k:=by
 intro f;have A:∀ (f:Nat) (l:vL) (k:Nat),jav k l->l.length=1->Dp (ja2 (f+1) l) k:=by
  intro f l k h H;rw[jcj _ H];exact (h.size _ (jdJ (l:=l) vO)).1
 induction f with
 | zero =>
  intro l k h J;have hl:=jbD h
  by_cases h0:l.length=0
  ·rw[jcd _ h0];trivial
  ·exact A 0 l k J vO
 | succ f ih =>
  intro l k h z
  by_cases h0:l.length=0
  ·rw[jcd _ h0];trivial
  by_cases H:l.length=1
  ·exact A _ l k z H
  have E:2<=l.length:=vO
  by_cases J:0 < comK l
  ·have Q:=jdJ (l:=l) vO
   have X:=jds h E;have o:=jby h E;have Z:=(o _ Q).2;have a0:=(z.size _ Q).1;rw[jdM _ E J]
   refine⟨by rw[X];omega,?_⟩
   rw[X];exact ih _ _ (jeo h E J).1 (jcx (comK l) z (fun p K q hq=>(o p K).1.trans (o q hq).1.symm) (fun p K=>(o p K).2))
  ·rw[je1 _ E J]
   intro i O;have O:(if (cutL i l).length=0 then PA.nil else ja2 (f+1) (jal 1 (cutL i l))).isNil=false:=O;show 1<=k/\Dp (if (cutL i l).length=0 then PA.nil else ja2 (f+1) (jal 1 (cutL i l))) (k - 1)
   by_cases hc:(cutL i l).length=0
   ·rw[if_pos hc]at O;cases O
   ·rw[if_neg hc]
    refine⟨?_,ih _ _ (jfb h hc).1 (jd8 i z)⟩
    cases e:cutL i l with
    | nil=>rw[e]at hc;exact (hc rfl).elim
    | cons p r =>
     obtain⟨K,a,t,H,E⟩:=jbv (show p∈cutL i l by rw[e];exact bD)
     have:=(z.size p K).1
     have h3:p.1.size=(a :: t).length:=by rw[<-jaI];exact congrArg List.length H
     rw[bO]at h3;omega
section
attribute [local go_sem] Oper.semAt_some
def noV:vV:=.iface 214 (.agg #[])
def jju(b:Nat):vV:=.iface 203 (.pointer (some ⟨b,0,none⟩))
def extV(b:Nat):vV:=.iface 206 (.pointer (some ⟨b,0,none⟩))
def brV(b:Nat):vV:=.iface 209 (.pointer (some ⟨b,0,none⟩))
def brC(u:vB)(vk:Nat->vV):List vV:=.string u ::(List.range 16).map vk
def PaAt:PA->vV->(Nat->Prop)->vW->Prop
 | .nil,v,_,_=>v=.nilIface
 | .no,v,_,_=>v=noV
 | .leaf q u,v,D,W=>∃ b,v=jju b/\D b/\Blk W b (.cells #[.string q,.string u] 205)
 | .ext q n,v,D,W=>∃ b T x Dn,v=extV b/\D b/\Blk W b (.cells #[.string q,.iface T x] 208)/\PaAt n (.iface T x) Dn W/\¬ Dn b/\∀ x,Dn x->D x
 | .br u ks,v,D,W=>∃ (b:Nat) (vk:Nat->vV) (Dk:Nat->Nat->Prop),v=brV b/\D b/\Blk W b (.cells (brC u vk).toArray 212) /\
   (∀ i,i < 16->PaAt (ks i) (vk i) (Dk i) W/\¬ Dk i b/\∀ x,Dk i x->D x)/\∀ i j,i < 16->j < 16->i≠j->∀ x,Dk i x->¬ Dk j x
theorem PaAt.keeps{F:BSet}{W W':vW}(k:jag F W W'):∀ (P:PA) (v:vV) (D:Nat->Prop),PaAt P v D W->(∀ x,D x->¬ F x)->PaAt P v D W'
 | .nil,_,_,h,_=>h
 | .no,_,_,h,_=>h
 | .leaf _ _,_,_,⟨b,h1,h2,h3⟩,hF=>⟨b,h1,h2,h3.keeps k (hF b h2)⟩
 | .ext _ n,_,_,⟨b,T,x,Dn,h1,h2,h3,h4,h5,h6⟩,hF=>⟨b,T,x,Dn,h1,h2,h3.keeps k (hF b h2),PaAt.keeps k n (.iface T x) Dn h4 (fun x e=>hF x (h6 x e)),h5,h6⟩
 | .br _ ks,_,_,⟨b,vk,Dk,h1,h2,h3,h4,h5⟩,hF=>⟨b,vk,Dk,h1,h2,h3.keeps k (hF b h2),fun i o=>⟨PaAt.keeps k (ks i) (vk i) (Dk i) (h4 i o).1 (fun x e=>hF x ((h4 i o).2.2 x e)),(h4 i o).2⟩,h5⟩
theorem PaAt.mono{D D':Nat->Prop}{W:vW}(hD:∀ x,D x->D' x):∀ {P:PA} {v:vV},PaAt P v D W->PaAt P v D' W
 | .nil,_,h=>h
 | .no,_,h=>h
 | .leaf _ _,_,⟨b,h1,h2,h3⟩=>⟨b,h1,hD b h2,h3⟩
 | .ext _ n,_,⟨b,T,x,Dn,h1,h2,h3,h4,h5,h6⟩=>⟨b,T,x,Dn,h1,hD b h2,h3,h4,h5,fun x e=>hD x (h6 x e)⟩
 | .br _ ks,_,⟨b,vk,Dk,h1,h2,h3,h4,h5⟩=>⟨b,vk,Dk,h1,hD b h2,h3,fun i o=>⟨(h4 i o).1,(h4 i o).2.1,fun x e=>hD x ((h4 i o).2.2 x e)⟩,h5⟩
theorem PaAt.form{P:PA}{v:vV}{D:Nat->Prop}{W:vW}(h:PaAt P v D W)(hn:P.isNil=false):∃ T x,v=.iface T x:=by
 cases P with
 | nil=>cases hn
 | no=>exact⟨_,_,h⟩
 | leaf q u=>obtain⟨b,h,_⟩:=h;exact⟨_,_,h⟩
 | ext q n=>obtain⟨b,T,x,e,h,_⟩:=h;exact⟨_,_,h⟩
 | br u ks=>obtain⟨b,o,z,h,_⟩:=h;exact⟨_,_,h⟩
structure PaO(P:PA)(v:Value)(D:Nat->Prop)(W:World):Prop where
 at':PaAt P v D W
 lt:∀ x,D x->x < W.heap.size
theorem PaO.keeps{F:BSet}{W W':vW}{P:PA}{v:vV}{D:Nat->Prop}(h:PaO P v D W)(k:jag F W W')(hF:∀ x,D x->¬ F x):PaO P v D W':=
 ⟨h.at'.keeps k P v D hF,fun x e=>bR (h.lt x e) k.size⟩
theorem PaO.ext{W W':vW}{P:PA}{v:vV}{D:Nat->Prop}(h:PaO P v D W)(k:Ext W W'):PaO P v D W':=h.keeps k fun _ _ e=>e
def Grow(D:Nat->Prop)(W W':vW):Nat->Prop:=fun x=>D x\/(W.heap.size<=x/\x < W'.heap.size)
theorem jeW{D:Nat->Prop}{W W':vW}{F:BSet}(h:∀ x,D x->x < W.heap.size)(k:jag F W W'):∀ x,Grow D W W' x->x < W'.heap.size
 | x,.inl hx=>bR (h x hx) k.size
 | x,.inr hx=>hx.2
def PaTo(D:Nat->Prop)(W:vW)(P:PA)(e:Ending)(w':vW):Prop:=∃ v,e=.returned v/\PaAt P v (Grow D W w') w'/\jag D W w'
theorem PaTo.own{D:Nat->Prop}{W:vW}{P:PA}{v:vV}{w':vW}(h:PaAt P v (Grow D W w') w')(k:jag D W w')(hl:∀ x,D x->x < W.heap.size):PaO P v (Grow D W w') w':=⟨h,jeW hl k⟩
def PaEx(D:Nat->Prop)(W:vW)(P:PA)(e:Ending)(w':vW):Prop:=∃ v,e=.returned v/\PaAt P v (Grow D W w') w'/\Ext W w'
theorem jyA(b:Nat)(w:vW):(Instr.typeAssert (jju b) 69 203 true).run Tryz.prog w=.ok (.tuple #[.pointer (some ⟨b,0,none⟩),.bool true]) w:=vY
theorem joe(v:vV)(h:(∃ b,v=extV b)\/(∃ b,v=brV b)\/v=noV)(w:vW):(Instr.typeAssert v 69 203 true).run Tryz.prog w=.ok (.tuple #[.pointer none,.bool false]) w:=by
 rcases h with⟨b,rfl⟩ |⟨b,rfl⟩ | rfl <;> kernel_rfl
theorem jAm(b:Nat)(w:vW):(Instr.typeAssert (extV b) 69 206 true).run Tryz.prog w=.ok (.tuple #[.pointer (some ⟨b,0,none⟩),.bool true]) w:=vY
theorem jxm(v:vV)(h:(∃ b,v=brV b)\/v=noV)(w:vW):(Instr.typeAssert v 69 206 true).run Tryz.prog w=.ok (.tuple #[.pointer none,.bool false]) w:=by
 rcases h with⟨b,rfl⟩ | rfl <;> kernel_rfl
theorem jBE(b:Nat)(w:vW):(Instr.typeAssert (brV b) 69 209 true).run Tryz.prog w=.ok (.tuple #[.pointer (some ⟨b,0,none⟩),.bool true]) w:=vY
theorem jBF(w:vW):(Instr.typeAssert noV 69 209 true).run Tryz.prog w=.ok (.tuple #[.pointer none,.bool false]) w:=vY
end
section
section mixz
variable {P:Program} {l:List Oper} {E D:vW->vW->Prop}
def anyZ(P:Program)(ops:Array Oper)(z:Nat)(hd:List Nat)(E D:vW->vW->Prop)(Q:Act->vW->Prop):Nat->Array Bool->Act->vW->Prop
 | 0,listed,a,w=>listed.getD z true=true/\Region.ready .any ops listed=[]/\Q a w
 | fuel+1,listed,a,w=>∀ w1,(listed.getD z true=false->E w w1)->(listed.getD z true=true->w1=w) ->
  (Region.ready .any ops listed=[]->Q a w1) /\
  ∀ i∈Region.ready .any ops listed,wpOp P ops NoQ i (fun a' w'=>(listed.getD z true=false->i≠z->D w1 w'/\(i ∉ hd->E w1 w'))/\(listed.getD z true=true->w'=w1)/\anyZ P ops z hd E D Q fuel (listed.setIfInBounds i true) a' w') a w1
theorem jrT(hT:∀ x y z,E x y->E y z->E x z){ops:Array Oper}{z:Nat}{hd:List Nat}{Q:Act->vW->Prop}:∀ (fuel:Nat) (listed:Array Bool) (a:Act) (w w1:vW),listed.getD z true=false->anyZ P ops z hd E D Q fuel listed a w->E w w1->anyZ P ops z hd E D Q fuel listed a w1
 | 0,_,_,_,_,hz,h,_=>by have:=h.1;rw[hz]at this;cases this
 | _+1,_,_,_,_,hz,h,he=>fun o q A=>h o (fun e=>hT _ _ _ he (q e)) (fun e=>absurd e (by rw[hz];decide))
theorem jjC(hE:∀ w,E w w){ops:Array Oper}{z:Nat}{hd:List Nat}{Q:Act->vW->Prop}{Q':Exit->Act->vW->Prop}(hQ:∀ a w,Q a w->Q' .normal a w) :
  ∀ (fuel:Nat) (listed:Array Bool) (a:Act) (w:vW),anyZ P ops z hd E D Q fuel listed a w->wpAny P .any ops Q' fuel listed a w
 | 0,_,_,w,h=>⟨h.2.1,hQ _ _ h.2.2⟩
 | fuel+1,_,_,w,h=>let ⟨h1,h2⟩:=h w (fun _=>hE w) (fun _=>rfl)
  ⟨fun e=>hQ _ _ (h1 e),fun i o=>jij (fun q w' ⟨_,_,A⟩=>jjC hE hQ fuel _ q w' A) (h2 i o)⟩
def jqM(ops:Array Oper)(z i:Nat):Bool:=match ops[z]? with | some o=>o.after.toList.any fun e=>Region.binds .any e && e.on == i | none=>false
theorem jvr{ops:Array Oper}{z i:Nat}{listed:Array Bool}(he:jqM ops z i=true)(hi:i∈Region.ready .any ops listed):z ∉ Region.ready .any ops listed:=by
 intro K;unfold jqM at he
 obtain⟨O,Q,A,o⟩:=mem_ready.1 K
 rw[A]at he
 obtain⟨e,E,H⟩:=fQ.1 he
 rw[cI,beq_iff_eq]at H;have q:=o e (by simpa using E) H.1;have J:=(mem_ready.1 hi).1;rw[H.2]at q;rcases fO i listed.size with h' | h'
 ·simp[h']at J q;rw[J]at q;cases q
 ·simp[gH h']at q
theorem jqz(hE:∀ w,E w w)(hT:∀ x y z,E x y->E y z->E x z)(hD:∀ x y z,D x y->D y z->D x z)(hED:∀ x y,E x y->D x y){ops:Array Oper}{z:Nat}{hd:List Nat}{Q:Act->vW->Prop}{i:Nat}{oi:Oper}{v:vV}(hiz:i≠z)(he0:jqM ops z i=true)(hi:ops[i]?=some oi)(hsel:∀ (j:Nat) (o:Oper) cs b,ops[j]?=some o->o.op≠.select cs b) :
  ∀ (A:Nat) (q:Array Bool) (a:Act) (w:vW),q.getD z true=false ->
   (∀ j Z,ops[j]?=some Z->j≠i->q.getD j true=false->(∀ e∈Z.after,Region.binds .any e=true->e.on≠i)->oi.apart ops Z=true) ->
   i∈Region.ready .any ops q->jcG P ops E D w oi v a ->
   anyZ P ops z hd E D Q A (q.setIfInBounds i true) (a.put oi.dst v) w->anyZ P ops z hd E D Q (A+1) q a w:=by
 intro A;induction A with
 | zero =>
  intro q a w hz _ hr hy H
  have:=H.1
  rw[getD_set_ne true hiz,hz]at this;cases this
 | succ A ih =>
  intro q a w hz J hr hy H w1 a8 _;have he:=a8 hz;have a0:(q.setIfInBounds i true).getD z true=false:=by rw[getD_set_ne true hiz,hz]
  refine⟨fun h=>(by rw[h]at hr;cases hr),fun j hj=>?_⟩
  by_cases hji:j=i
  ·subst hji
   exact hy.wpOp hi (hED _ _ he) hE (fun w' K=>⟨fun _ _=>⟨hED _ _ K,fun _=>K⟩,fun e=>absurd e (by rw[hz];decide),jrT hT _ _ _ _ _ a0 H (hT _ _ _ he K)⟩)
  ·have a6:j≠z:=fun e=>jvr he0 hr (e ▸ hj)
   have K:=(H w1 (fun _=>he) (fun e=>by rw[a0]at e;cases e)).2 j (ready_mono hj hji)
   obtain⟨X,Z,a3,a4⟩:=mem_ready.1 hj
   have a5:∀ e∈Z.after,Region.binds .any e=true->e.on≠i:=fun e he hb a9=>by
    have K:=a4 e he hb;have h0:=(mem_ready.1 hr).1;rw[a9]at K;rcases fO i q.size with h' | h'
    ·simp[h']at h0 K;rw[h0]at K;cases K
    ·simp[gH h']at K
   have h2:=jfF (v:=v) (Y:=fun a'=>execOp a'.eval oi=execOp a.eval oi/\Region.wanted oi (yielded ops a'.tmps)=Region.wanted oi (yielded ops a.tmps)) a3 (J j Z a3 hji X a5) (fun cs b=>hsel i oi cs b hi) (fun cs b=>hsel j Z cs b a3)
    (fun a1 a2 h e1 e2=>⟨e1.trans h.1,e2.trans h.2⟩) ⟨rfl,rfl⟩ K
   have O:∀ k ok,ops[k]?=some ok->k≠i->(q.setIfInBounds j true).getD k true=false ->
     (∀ e∈ok.after,Region.binds .any e=true->e.on≠i)->oi.apart ops ok=true:=fun k ok hk b0 a7 b1=>by
    refine J k ok hk b0 ?_ b1
    by_cases hjk:j=k
    ·subst hjk;exact X
    ·rw[getD_set_ne true hjk]at a7;exact a7
   refine wpOp_mono (fun a' w' h3=>?_) h2
   obtain⟨⟨e1,e2⟩,h4,_,h5⟩:=h3
   have h4:=h4 a0 a6
   refine⟨fun _ _=>h4,fun e=>absurd e (by rw[hz];decide),?_⟩
   have b2:jcG P ops E D w' oi v a':=(hy.of_same e1 e2).st hD (hD _ _ _ (hED _ _ he) h4.1);refine ih (q.setIfInBounds j true) a' w' (by rw[getD_set_ne true a6,hz]) O (ready_mono hr (Ne.symm hji)) b2 ?_;rw[gQ _ _ hji];exact h5
def jhb(P:Program)(ops:Array Oper)(o:Oper)(v:vV)(a:Act):Prop:=
 (Region.wanted o (yielded ops a.tmps)=true/\∀ w1,joq P (fun x y=>y=x) w1 v ((execOp a.eval o).run P w1))\/(Region.wanted o (yielded ops a.tmps)=false/\v=undef)
theorem jhb.wpOp{ops:Array Oper}{i:Nat}{o:Oper}{v:vV}{a:Act}(hi:ops[i]?=some o)(hy:jhb P ops o v a){K:Act->vW->Prop}{w1:vW}
  (h:K (a.put o.dst v) w1):wpOp P ops NoQ i K a w1:=by
 have q:jb7 P ops (fun x y=>y=x) w1 o v a:=by
  rcases hy with⟨h1,h2⟩ | h1
  ·exact .inl ⟨h1,fun w1 _=>h2 w1⟩
  ·exact .inr h1
 exact q.wpOp hi (Eq.refl w1) (fun _=>rfl) (fun w' e=>by have e:w'=w1:=e;rw[e];exact h)
theorem juY(hE:∀ w,E w w)(hT:∀ x y z,E x y->E y z->E x z)(hED:∀ x y,E x y->D x y){ops:Array Oper}{z:Nat}{hd:List Nat}{Q:Act->vW->Prop}{i:Nat}{oi:Oper}{v:vV}(hiz:i≠z)(hi:ops[i]?=some oi)(hsel:∀ (j:Nat) (o:Oper) cs b,ops[j]?=some o->o.op≠.select cs b) :
  ∀ (A:Nat) (q:Array Bool) (a:Act) (w:vW),
   (∀ j oj,ops[j]?=some oj->j≠i->q.getD j true=false->(∀ e∈oj.after,Region.binds .any e=true->e.on≠i)->oi.apart ops oj=true) ->
   i∈Region.ready .any ops q->jhb P ops oi v a ->
   anyZ P ops z hd E D Q A (q.setIfInBounds i true) (a.put oi.dst v) w->anyZ P ops z hd E D Q (A+1) q a w:=by
 intro A;have a0:∀ (A:Nat) (q:Array Bool) (a:Act) (w w1:vW),(q.getD z true=false->E w w1)->(q.getD z true=true->w1=w) ->
   anyZ P ops z hd E D Q A (q.setIfInBounds i true) (a.put oi.dst v) w->anyZ P ops z hd E D Q A (q.setIfInBounds i true) (a.put oi.dst v) w1:=by
  intro A q a w w1 K h2 H;cases hz:q.getD z true with
  | true=>rw[h2 hz];exact H
  | false=>exact jrT hT _ _ _ _ _ (by rw[getD_set_ne true hiz,hz]) H (K hz)
 induction A with
 | zero =>
  intro q a w J hr hy H w1 O X;have hz:q.getD z true=true:=by have:=H.1;rwa [getD_set_ne true hiz]at this
  refine⟨fun h=>(by rw[h]at hr;cases hr),fun j hj=>?_⟩
  by_cases hji:j=i
  ·subst hji
   exact hy.wpOp hi ⟨fun _ _=>⟨hED _ _ (hE w1),fun _=>hE w1⟩,fun _=>rfl,a0 0 q a w w1 O X H⟩
  ·have:=ready_mono hj hji
   rw[H.2.1]at this;cases this
 | succ A ih =>
  intro q a w J hr hy H w1 O X
  refine⟨fun h=>(by rw[h]at hr;cases hr),fun j hj=>?_⟩
  by_cases hji:j=i
  ·subst hji
   exact hy.wpOp hi ⟨fun _ _=>⟨hED _ _ (hE w1),fun _=>hE w1⟩,fun _=>rfl,a0 _ q a w w1 O X H⟩
  ·have a4:(q.setIfInBounds i true).getD z true=q.getD z true:=getD_set_ne true hiz
   have K:=(H w1 (fun e=>O (a4 ▸ e)) (fun e=>X (a4 ▸ e))).2 j (ready_mono hj hji)
   obtain⟨a3,oj,a5,a6⟩:=mem_ready.1 hj
   have a7:∀ e∈oj.after,Region.binds .any e=true->e.on≠i:=fun e he hb b0=>by
    have K:=a6 e he hb;have h0:=(mem_ready.1 hr).1;rw[b0]at K;rcases fO i q.size with h' | h'
    ·simp[h']at h0 K;rw[h0]at K;cases K
    ·simp[gH h']at K
   have h2:=jfF (v:=v) (Y:=fun a'=>execOp a'.eval oi=execOp a.eval oi/\Region.wanted oi (yielded ops a'.tmps)=Region.wanted oi (yielded ops a.tmps)) a5 (J j oj a5 hji a3 a7) (fun cs b=>hsel i oi cs b hi) (fun cs b=>hsel j oj cs b a5)
    (fun a1 a2 h e1 e2=>⟨e1.trans h.1,e2.trans h.2⟩) ⟨rfl,rfl⟩ K
   have Z:∀ k ok,ops[k]?=some ok->k≠i->(q.setIfInBounds j true).getD k true=false ->
     (∀ e∈ok.after,Region.binds .any e=true->e.on≠i)->oi.apart ops ok=true:=fun k ok hk b1 a8 b2=>by
    refine J k ok hk b1 ?_ b2
    by_cases hjk:j=k
    ·subst hjk;exact a3
    ·rw[getD_set_ne true hjk]at a8;exact a8
   refine wpOp_mono (fun a' w' h3=>?_) h2
   obtain⟨⟨e1,e2⟩,h4,a9,h5⟩:=h3
   rw[a4]at h4 a9
   refine⟨h4,a9,?_⟩
   have b3:jhb P ops oi v a':=by unfold jhb at *;rw[e1,e2];exact hy
   refine ih (q.setIfInBounds j true) a' w' Z (ready_mono hr (Ne.symm hji)) b3 ?_;rw[gQ _ _ hji];exact h5
def MixZ(P:Program)(l:List Oper)(z:Nat)(hd:List Nat)(E D:vW->vW->Prop)(Q:Act->vW->Prop):List Nat->List Nat->Act->vW->Prop
 | [],done,a,w=>Region.ready .any l.toArray (jbi l done)=[z]/\(jbi l done).getD z true=false/\(jbi l (z :: done)).getD z true=true/\Region.ready .any l.toArray (jbi l (z :: done))=[]/\∀ w1,E w w1->wpOp P l.toArray NoQ z Q a w1
 | k :: ord,done,a,w=>(jbi l done).getD z true=false/\k≠z /\
  ((k∈Region.ready .any l.toArray (jbi l done)/\Region.free .any l.toArray (jbi l done) k=true/\∃ o v,l[k]?=some o/\((jqM l.toArray z k=true/\jcG P l.toArray E D w o v a)\/jhb P l.toArray o v a)/\MixZ P l z hd E D Q ord (k :: done) (a.put o.dst v) w) \/
  (Region.ready .any l.toArray (jbi l done)=[k]/\k∈hd/\∀ w1,E w w1->wpOp P l.toArray NoQ k (fun a' w'=>D w1 w'/\MixZ P l z hd E D Q ord (k :: done) a' w') a w1))
theorem jeP(hE:∀ w,E w w)(hT:∀ x y z,E x y->E y z->E x z)(hD:∀ x y z,D x y->D y z->D x z)(hED:∀ x y,E x y->D x y)(hs:Region.noSelect l.toArray=true){z:Nat}{hd:List Nat}{Q:Act->vW->Prop}:∀ (ord:List Nat) (done:List Nat) (a:Act) (w:vW),
  MixZ P l z hd E D Q ord done a w->anyZ P l.toArray z hd E D Q (ord.length+1) (jbi l done) a w
 | [],done,a,w,⟨h1,hz,hz2,K,h3⟩=>fun w1 A _=>by
  refine⟨fun H=>(by rw[h1]at H;cases H),fun i J=>?_⟩
  rw[h1]at J;obtain rfl:i=z:=by simpa using J
  exact wpOp_mono (fun O w' h=>⟨fun _ e=>absurd rfl e,fun e=>absurd e (by rw[hz];decide),hz2,K,h⟩) (h3 w1 (A hz))
 | k :: ord,done,a,w,⟨hz,hkz,h⟩=>by
  rcases h with⟨hr,hf,o,v,ho,hy,h⟩ |⟨hr,hkd,h⟩
  ·have q:l.toArray[k]?=some o:=by simpa using ho
   rcases hy with⟨A,hy⟩ | hy
   ·exact jqz hE hT hD hED hkz A q (iD hs) (ord.length+1) (jbi l done) a w hz (iQ q hf) hr hy (jeP hE hT hD hED hs ord _ _ _ h)
   ·exact juY hE hT hED hkz q (iD hs) (ord.length+1) (jbi l done) a w (iQ q hf) hr hy (jeP hE hT hD hED hs ord _ _ _ h)
  ·intro w1 A _
   refine⟨fun H=>(by rw[hr]at H;cases H),fun i J=>?_⟩
   rw[hr]at J;obtain rfl:i=k:=by simpa using J
   exact wpOp_mono (fun O w' K=>⟨fun _ _=>⟨K.1,fun X=>absurd hkd X⟩,fun e=>absurd e (by rw[hz];decide),jeP hE hT hD hED hs ord _ _ _ K.2⟩) (h w1 (A hz))
theorem jdm(ord:List Nat)(z:Nat)(hd:List Nat)(E D:vW->vW->Prop)(hE:∀ w,E w w)(hT:∀ x y z,E x y->E y z->E x z)(hD:∀ x y z,D x y->D y z->D x z)(hED:∀ x y,E x y->D x y){id:Nat}{Q:Exit->Act->vW->Prop}{a:Act}{w:vW}
  (hm:P.follows .mixedOrders=true) (hs:Region.noSelect l.toArray=true) (hl:ord.length+1=l.toArray.size)
  (h:MixZ P l z hd E D (fun a w=>Q .normal a w) ord [] a w.drew):(Code.region id l.toArray true).wp P Q a w:=by
 refine wp_region_any hm ?_;rw[<-hl]
 have:=jeP hE hT hD hED hs ord _ _ _ h
 unfold jbi at this;rw[hl]at this ⊢;exact jjC hE (fun _ _ h=>h) _ _ _ _ this
variable {Q:Act->vW->Prop} {ord done hd:List Nat} {a:Act} {w:vW} {k z:Nat} {o:Oper}
def jqW(l:List Oper)(z:Nat)(done:List Nat)(k:Nat):Bool:=(Region.ready .any l.toArray (jbi l done)).contains k && Region.free .any l.toArray (jbi l done) k && (jbi l done).getD z true == false && k != z
theorem jhr(h:jqW l z done k=true):(k∈Region.ready .any l.toArray (jbi l done)/\Region.free .any l.toArray (jbi l done) k=true)/\(jbi l done).getD z true=false/\k≠z:=by
 simp only[jqW,cI,cZ,beq_iff_eq,bne_iff_ne]at h
 exact⟨h.1.1,h.1.2,h.2⟩
theorem jtu(o:Oper)(ho:l[k]?=some o)(hk:jqW l z done k=true)(hw:Region.wanted o (yielded l.toArray a.tmps)=true)(hq:jj1 o.op=true)
  (h:∀ K:Act->Prop,(∀ a',MixZ P l z hd E D Q ord (k :: done) a' w->K a')->o.quiet P a (fun _=>True) K):MixZ P l z hd E D Q (k :: ord) done a w:=by
 obtain⟨⟨q,A⟩,H,J⟩:=jhr hk
 obtain⟨v,O,X⟩:=h _ (fun _ h=>h)
 refine⟨H,J,.inl ⟨q,A,o,v,ho,.inr (.inl ⟨hw,fun w1=>?_⟩),X⟩⟩
 have e:=O w1 trivial;unfold Oper.quietAt at e;have Z:=fun f args w'=>jlo (ρ:=a.eval) hq P w1 w' f args;generalize (execOp a.eval o).run P w1=r at *;cases r with
 | ok n w'=>cases n <;> simp only[Oper.quietUpon]at e <;> first | exact e | exact absurd rfl (Z _ _ _)
 | halt x w'=>simp only[Oper.quietUpon]at e
theorem jcM(o:Oper)(v:vV)(ho:l[k]?=some o)(hk:jqW l z done k=true)(hw:Region.wanted o (yielded l.toArray a.tmps)=true)
  (hv:∀ w1,(execOp a.eval o).run P w1=.ok (.value v) w1) (h:MixZ P l z hd E D Q ord (k :: done) (a.put o.dst v) w):MixZ P l z hd E D Q (k :: ord) done a w:=by
 obtain⟨⟨e,q⟩,A,H⟩:=jhr hk
 exact⟨A,H,.inl ⟨e,q,o,v,ho,.inr (.inl ⟨hw,fun w1=>by rw[hv w1];exact⟨rfl,rfl⟩⟩),h⟩⟩
theorem jv4(o:Oper)(v:vV)(ho:l[k]?=some o)(hk:jqW l z done k=true)(he:jqM l.toArray z k=true)(hw:Region.wanted o (yielded l.toArray a.tmps)=true)
  (hv:∀ w1,D w w1->(execOp a.eval o).run P w1=.ok (.value v) w1) (h:MixZ P l z hd E D Q ord (k :: done) (a.put o.dst v) w):MixZ P l z hd E D Q (k :: ord) done a w:=by
 obtain⟨⟨e,q⟩,A,H⟩:=jhr hk
 exact⟨A,H,.inl ⟨e,q,o,v,ho,.inl ⟨he,.inl ⟨hw,fun w1 J=>by rw[hv w1 J];exact⟨rfl,rfl⟩⟩⟩,h⟩⟩
theorem jgM(p:Addr)(v:vV){t:TypeId}{x:Operand}{d:Option Tmp}{ty:TypeId}{pos:String}{af:Array Edge}{g:Option (Nat × Bool)}(ho:l[k]?=some ⟨d,.load t x,ty,pos,af,g⟩)(hk:jqW l z done k=true)(he:jqM l.toArray z k=true)
  (hw:Region.wanted ⟨d,.load t x,ty,pos,af,g⟩ (yielded l.toArray a.tmps)=true) (hx:a.eval x=.pointer (some p))
  (hv:∀ w1,D w w1->(Instr.loadAt t (.pointer (some p))).run P w1=.ok v w1) (h:MixZ P l z hd E D Q ord (k :: done) (a.put d v) w):MixZ P l z hd E D Q (k :: ord) done a w:=by
 refine jv4 _ v ho hk he hw (fun w1 e=>?_) h
 have:=hv w1 e
 simp only[execOp,hx,bS,this,Result.andThen,cJ]
def jxa(l:List Oper)(z:Nat)(hd done:List Nat)(k:Nat):Bool:=Region.ready .any l.toArray (jbi l done) == [k] && (jbi l done).getD z true == false && k != z && hd.contains k
theorem jgK(o:Oper)(ho:l[k]?=some o)(hk:jxa l z hd done k=true)(hw:Region.wanted o (yielded l.toArray a.tmps)=true)
  (h:∀ w1,E w w1->∀ K:Act->vW->Prop,(∀ a' w',D w1 w'->MixZ P l z hd E D Q ord (k :: done) a' w'->K a' w')->o.wp P a w1 K NoQ):MixZ P l z hd E D Q (k :: ord) done a w:=by
 simp only[jxa,cI,beq_iff_eq,bne_iff_ne,cZ]at hk
 refine⟨hk.1.1.2,hk.1.2,.inr ⟨hk.1.1.1,hk.2,fun w1 q=>?_⟩⟩
 unfold wpOp;have e:l.toArray[k]?=some o:=by simpa using ho
 simp only[e,hw,if_true];exact .inl (h w1 q _ (fun _ _ A H=>⟨A,H⟩))
def jAB(l:List Oper)(z:Nat)(done:List Nat):Bool:=Region.ready .any l.toArray (jbi l done) == [z] && (jbi l done).getD z true == false && (jbi l (z :: done)).getD z true == true && (Region.ready .any l.toArray (jbi l (z :: done))).isEmpty
theorem jgL(o:Oper)(ho:l[z]?=some o)(hk:jAB l z done=true)(hw:Region.wanted o (yielded l.toArray a.tmps)=true)
  (h:∀ w1,E w w1->∀ K:Act->vW->Prop,(∀ a' w',Q a' w'->K a' w')->o.wp P a w1 K NoQ):MixZ P l z hd E D Q [] done a w:=by
 simp only[jAB,cI,beq_iff_eq,dQ]at hk
 refine⟨hk.1.1.1,hk.1.1.2,hk.1.2,hk.2,fun w1 q=>?_⟩
 unfold wpOp;have e:l.toArray[z]?=some o:=by simpa using ho
 simp only[e,hw,if_true];exact .inl (h w1 q _ (fun _ _ h=>h))
end mixz
end
section
attribute [local go_sem] Oper.semAt_some
theorem jde{p:vB}(h:p.size≠0):p.toList.isEmpty=false:=by
 rw[cU];intro e;rw[dQ,bN]at e;exact h (by rw[<-jaI,e];rfl)
theorem PaEx.mk1{D:Nat->Prop}{W W':vW}{P:PA}{v:vV}(h:PaAt P v (Grow D W W') W')(e:Ext W W'):PaEx D W P (.returned v) W':=⟨v,rfl,h,e⟩
theorem jAR(W:vW)(D:Nat->Prop)(P:PA)(v:vV)(h:PaAt P v D W):vQ 199 #[.string ⟨#[]⟩,v] W (PaEx D W P):=by
 have H:=Hd h;clear h;go_enter Tryz.func199,Tryz.ntmps199;have e:(⟨#[]⟩:vB).toList.isEmpty=true:=by rw[bN];rfl
 go_wp2_with fail
 go_ret;exact PaEx.mk1 (H.o.mono (fun x q=>.inl q)) (ExtR W)
theorem jyR(W:vW)(D:Nat->Prop)(a q u:vB)(b:Nat)(hB:Blk W b (.cells #[.string q,.string u] 205))(h0:a.size≠0)(ha:a.size<=1000000)(hq:q.size<=1000000) :
  vQ 199 #[.string a,jju b] W (PaEx D W (.leaf (a++q) u)):=by
 have a0:=jde h0;have Q:=hB.cell (i:=0) (v:=.string q) vF;have X:=hB.cell (i:=1) (v:=.string u) vF;have Q0:=Hd Q;have Q1:=Hd X;have hT:=jyA b;unfold jju at hT ⊢;clear hB h0 Q X;go_enter Tryz.func199,Tryz.ntmps199;go_wp2_with fail
 refine jan [0,1,2,3,4,5,6,7,8,9,10,11,12,13] (Ext) ExtR ExtT vY vY vY ?_;iterate 2 refine vK ?_
 refine jcB _ ((.pointer (some ⟨b,0,none⟩))) rfl vY rfl (fun w1 _=>by kernel_rfl) ?_;refine vS ?_
 refine vK ?_
 refine qKL ⟨b,0,none⟩ _ rfl (fun w1 J=>jaB (fun w=>by kernel_rfl) (jaa Q0.o ((jaq _).trans J))) ?_;refine vS ?_;iterate 2 refine vK ?_
 refine jcB _ ((.pointer (some ⟨b,0,none⟩))) rfl vY rfl (fun w1 _=>by kernel_rfl) ?_;refine vS ?_
 refine vK ?_
 refine qKL ⟨b,1,none⟩ _ rfl (fun w1 J=>jaB (fun w=>by kernel_rfl) (jaa Q1.o ((jaq _).trans J))) ?_;refine vS ?_
 refine vK ?_
 refine jeC _ rfl vY rfl (fun z hb K Z=>?_);refine jcD (v:=.pointer (some ⟨z.heap.size,0,none⟩)) (w':=z.alloc (.cells #[.string (a++q),.string u] 205)) vY (Z _ _ ((ExtR z).alloc _) ?_);clear Z K;have hN:=Blk.new z (.cells #[.string (a++q),.string u] 205);refine vS ?_;iterate 2 refine vK ?_
 refine qKE (fun w5 O=>?_);have E:Ext W w5:=(((jaq W).trans hb).trans ((ExtR z).alloc _)).trans O;have e:=hN.keeps O (fun h=>h);have A:=hb.size;have A:W.heap.size<=z.heap.size:=A;have H:=e.lt;have HX:=Hd (bB E (bB e (bB A H)));clear O hN hb E e A H;go_wp2_with fail
 go_ret
 obtain⟨E,e,A,H⟩:=HX.o
 exact PaEx.mk1 ⟨_,rfl,.inr ⟨A,H⟩,e⟩ E
theorem jAQ(W:vW)(D:Nat->Prop)(a q:vB)(n:PA)(T:TypeId)(x:vV)(Dn:Nat->Prop)(b:Nat)(hB:Blk W b (.cells #[.string q,.iface T x] 208))(O:PaAt n (.iface T x) Dn W)(H:∀ x,Dn x->D x/\x < W.heap.size)(h0:a.size≠0)(ha:a.size<=1000000)(hq:q.size<=1000000) :
  vQ 199 #[.string a,extV b] W (PaEx D W (.ext (a++q) n)):=by
 have a0:=jde h0;have q0:=hB.cell (i:=0) (v:=.string q) vF;have q1:=hB.cell (i:=1) (v:=.iface T x) vF;have Q0:=Hd q0;have Q1:=Hd q1;have HV:=Hd (bB O H);have hT:=jAm b;have X:=joe (extV b) (.inl ⟨b,rfl⟩);unfold extV at hT X ⊢;clear hB h0 q0 q1 O H;go_enter Tryz.func199,Tryz.ntmps199;go_wp2_with fail
 refine jan [0,1,2,3,4,5,6,7,8,9,10,11,12,13] (Ext) ExtR ExtT vY vY vY ?_;iterate 2 refine vK ?_
 refine jcB _ ((.pointer (some ⟨b,0,none⟩))) rfl vY rfl (fun w1 _=>by kernel_rfl) ?_;refine vS ?_
 refine vK ?_
 refine qKL ⟨b,0,none⟩ _ rfl (fun w1 Z=>jaB (fun w=>by kernel_rfl) (jaa Q0.o ((jaq _).trans Z))) ?_;refine vS ?_;iterate 2 refine vK ?_
 refine jcB _ ((.pointer (some ⟨b,0,none⟩))) rfl vY rfl (fun w1 _=>by kernel_rfl) ?_;refine vS ?_
 refine vK ?_
 refine qKL ⟨b,1,none⟩ _ rfl (fun w1 Z=>jaB (fun w=>by kernel_rfl) (jaa Q1.o ((jaq _).trans Z))) ?_;refine vS ?_
 refine vK ?_
 refine jeC _ rfl vY rfl (fun A hb K hK=>?_);refine jcD (v:=.pointer (some ⟨A.heap.size,0,none⟩)) (w':=A.alloc (.cells #[.string (a++q),.iface T x] 208)) vY (hK _ _ ((ExtR A).alloc _) ?_);clear hK K;have hN:=Blk.new A (.cells #[.string (a++q),.iface T x] 208);refine vS ?_;iterate 2 refine vK ?_
 refine qKE (fun w5 he=>?_);have J:Ext W w5:=(((jaq W).trans hb).trans ((ExtR A).alloc _)).trans he;have z:=hN.keeps he (fun h=>h);have E:=hb.size;have E:W.heap.size<=A.heap.size:=E;have Q:=z.lt;have HX:=Hd (bB J (bB z (bB E Q)));clear he hN hb J z E Q;go_wp2_with fail
 go_ret
 obtain⟨J,z,E,Q⟩:=HX.o
 obtain⟨O,H⟩:=HV.o
 exact PaEx.mk1 ⟨_,T,x,Dn,rfl,.inr ⟨E,Q⟩,z,O.keeps J n (.iface T x) Dn (fun _ _ e=>e),fun e=>by have:=(H _ e).2;omega,fun x hx=>.inl (H x hx).1⟩ J
theorem jBX(W:vW)(D:Nat->Prop)(a:vB)(u:vB)(ks:Nat->PA)(b:Nat)(h:PaO (.br u ks) (brV b) D W)(h0:a.size≠0) :
  vQ 199 #[.string a,brV b] W (PaEx D W (.ext a (.br u ks))):=by
 have J:=jde h0;have A:=Hd h;have K:=jBE b;have q:=joe (brV b) (.inr (.inl ⟨b,rfl⟩));have z:=jxm (brV b) (.inl ⟨b,rfl⟩);unfold brV at K q z ⊢;clear h h0;go_enter Tryz.func199,Tryz.ntmps199;go_wp2_with fail
 go_ret;have E:Ext W (W.alloc (.cells #[.string a,brV b] 208)):=(ExtR W).alloc _;have H:=Blk.new W (.cells #[.string a,brV b] 208);exact PaEx.mk1 ⟨_,_,_,D,rfl,.inr ⟨bL _,H.lt⟩,H,A.o.at'.keeps E _ _ _ (fun _ _ e=>e),fun e=>by have:=A.o.lt _ e;omega,fun x O=>.inl O⟩ E
theorem jBY(W:vW)(D:Nat->Prop)(a:vB)(h0:a.size≠0):vQ 199 #[.string a,noV] W (PaEx D W .no):=by
 have z:=jde h0;have e:=joe noV (.inr (.inr rfl));have o:=jxm noV (.inr rfl);have q:=jBF;unfold noV at e o q ⊢;clear h0;go_enter Tryz.func199,Tryz.ntmps199;go_wp2_with fail
 go_ret;exact PaEx.mk1 rfl (ExtR W)
theorem pj_c(W:vW)(D:Nat->Prop)(a:vB)(P:PA)(v:vV)(h:PaO P v D W)(hn:P.isNil=false)(ha:a.size<=1000000)(hd:Dp P 1000000) :
  vQ 199 #[.string a,v] W (PaEx D W (jbX a P)):=by
 unfold jbX
 by_cases h0:a.size=0
 ·rw[if_pos h0,ja1 h0];exact jAR W D P v h.at'
 rw[if_neg h0];cases P with
 | nil=>cases hn
 | no=>obtain rfl:v=noV:=h.at';exact jBY W D a h0
 | leaf q u =>
  obtain⟨b,rfl,o,e⟩:=h.at'
  exact jyR W D a q u b e h0 ha hd
 | ext q n =>
  obtain⟨b,T,x,H,rfl,o,e,z,J,A⟩:=h.at'
  exact jAQ W D a q n T x H b e z (fun x E=>⟨A x E,h.lt x (A x E)⟩) h0 ha hd.1
 | br u ks =>
  obtain⟨b,K,O,rfl,o,e,z,J⟩:=h.at'
  exact jBX W D a u ks b h h0
end
section
attribute [local go_sem] Oper.semAt_some
theorem jdS{a:vB}{P:PA}(h:P.isNil=false):(jbX a P).isNil=false:=by
 unfold jbX;split
 ·exact h
 ·cases P <;> rfl
theorem jgU:∀ (P:PA) (p u:vB),(putP P p u).isNil=false
 | .nil,_,_=>rfl
 | .no,_,_=>rfl
 | .leaf q v,p,u=>by
  unfold putP;split
  ·rfl
  ·refine jdS ?_
   rw[jce];split
   ·rw[jce];split <;> rfl
   ·rw[jce];split <;> rfl
 | .ext q n,p,u=>by
  unfold putP;split
  ·exact jdS (jgU n _ _)
  ·refine jdS ?_
   rw[jce];split <;> rfl
 | .br v ks,p,u=>by
  unfold putP;split <;> rfl
theorem jcQ{P:Program}{a:Act}{w:vW}{d:Option Tmp}{x:Operand}{name:String}{args:Array Operand}{ats:Array TypeId}{ty:TypeId}{pos:String}{af:Array Edge}{g:Option (Nat × Bool)}{T:TypeId}{v r:vV}{f:FuncId}{vs:Array vV}(hx:a.eval x=.iface T v)
  (hm:(Go.method (P.types.size+Made.depth) T v name).run P w=.ok (f,r) w) (eg:∀ args w,(callFunc f args).run P w=.ok (.enter f args) w) (hv:args.map a.eval=vs) :
  (execOp a.eval ⟨d,.call { callee:=.invoke x name,args:=args,argTypes:=ats },ty,pos,af,g⟩).run P w=.ok (.enter f (#[r]++vs)) w:=by
 subst hv;have e:(#[Value.iface T v]++args.map a.eval)[0]?=some (.iface T v):=by simp[Array.getElem?_append]
 have o:(#[Value.iface T v]++args.map a.eval).extract 1 (#[Value.iface T v]++args.map a.eval).size=args.map a.eval:=by simp
 simp only[execOp,resolve,hx,bS,cJ,Result.andThen,invoke,e,o,callMethod,run_program,hm,eg]
def jjw:PA->FuncId
 | .leaf _ _=>197
 | .ext _ _=>203
 | .br _ _=>198
 | _=>213
def jfc:PA->FuncId
 | .leaf _ _=>194
 | .ext _ _=>200
 | .br _ _=>206
 | _=>210
def jff:PA->FuncId
 | .leaf _ _=>195
 | .ext _ _=>201
 | .br _ _=>207
 | _=>211
def jmW:PA->FuncId
 | .leaf _ _=>196
 | .ext _ _=>202
 | .br _ _=>208
 | _=>212
set_option maxRecDepth 100000
theorem jgC(P:PA):∀ args w,(callFunc (jjw P) args).run Tryz.prog w=.ok (.enter (jjw P) args) w:=by intro args w;cases P <;> kernel_rfl
theorem jex(P:PA):∀ args w,(callFunc (jfc P) args).run Tryz.prog w=.ok (.enter (jfc P) args) w:=by intro args w;cases P <;> kernel_rfl
theorem jdp(P:PA):∀ args w,(callFunc (jff P) args).run Tryz.prog w=.ok (.enter (jff P) args) w:=by intro args w;cases P <;> kernel_rfl
theorem jqN(P:PA):∀ args w,(callFunc (jmW P) args).run Tryz.prog w=.ok (.enter (jmW P) args) w:=by intro args w;cases P <;> kernel_rfl
structure jzL(P:PA)(T:TypeId)(x:Value):Prop where
 put:∀ w,(Go.method (Tryz.prog.types.size+Made.depth) T x "guilloche/trie.put").run Tryz.prog w=.ok (jjw P,x) w
 drop:∀ w,(Go.method (Tryz.prog.types.size+Made.depth) T x "guilloche/trie.drop").run Tryz.prog w=.ok (jfc P,x) w
 ent:∀ w,(Go.method (Tryz.prog.types.size+Made.depth) T x "guilloche/trie.entries").run Tryz.prog w=.ok (jff P,x) w
 form:∀ w,(Go.method (Tryz.prog.types.size+Made.depth) T x "guilloche/trie.form").run Tryz.prog w=.ok (jmW P,x) w
theorem PaAt.meth{P:PA}{T:TypeId}{x:vV}{D:Nat->Prop}{W:vW}(h:PaAt P (.iface T x) D W):jzL P T x:=by
 cases P with
 | nil=>cases h
 | no =>
  have h:Value.iface T x=noV:=h;unfold noV at h;injection h with h1 h2;subst h1 h2
  exact⟨fun w=>by kernel_rfl,fun w=>by kernel_rfl,fun w=>by kernel_rfl,fun w=>by kernel_rfl⟩
 | leaf q u =>
  obtain⟨b,h,_⟩:=h
  unfold jju at h;injection h with h1 h2;subst h1 h2
  exact⟨fun w=>by kernel_rfl,fun w=>by kernel_rfl,fun w=>by kernel_rfl,fun w=>by kernel_rfl⟩
 | ext q n =>
  obtain⟨b,_,_,_,h,_⟩:=h
  unfold extV at h;injection h with h1 h2;subst h1 h2
  exact⟨fun w=>by kernel_rfl,fun w=>by kernel_rfl,fun w=>by kernel_rfl,fun w=>by kernel_rfl⟩
 | br u ks =>
  obtain⟨b,_,_,h,_⟩:=h
  unfold brV at h;injection h with h1 h2;subst h1 h2
  exact⟨fun w=>by kernel_rfl,fun w=>by kernel_rfl,fun w=>by kernel_rfl,fun w=>by kernel_rfl⟩
theorem jyJ:jzL .no 214 (.agg #[]):=PaAt.meth (D:=fun _=>True) (W:={ (default:vW)with heap:=#[] }) rfl
def PutC(P:PA):Prop:=∀ (W:vW) (T:TypeId) (x:vV) (D:Nat->Prop) (p u:vB),PaO P (.iface T x) D W->p.size<=900000->jaC p=true->Dp P 900000 ->
 vQ (jjw P) #[x,.string p,.string u] W (PaTo D W (putP P p u))
theorem PaTo.mk1{D:Nat->Prop}{W W':vW}{P:PA}{v:vV}(h:PaAt P v (Grow D W W') W')(e:jag D W W'):PaTo D W P (.returned v) W':=⟨v,rfl,h,e⟩
theorem jnY(T:TypeId)(x:vV)(w:vW):(binOp .eql 69 (.iface T x) .nilIface).run Tryz.prog w=.ok (.bool false) w:=vY
theorem jAl(w:vW):(binOp .eql 69 .nilIface .nilIface).run Tryz.prog w=.ok (.bool true) w:=vY
theorem jhf(u:vB)(vk:Nat->vV):(brC u vk).length=17:=by simp[brC]
theorem jeQ(u:vB)(vk:Nat->vV){i:Nat}(h:i < 16):(brC u vk)[1+i]?=some (vk i):=by
 rw[gO];show ((List.range 16).map vk)[i]?=_;rw[cA,fB h];rfl
def setV(vk:Nat->vV)(i:Nat)(v:vV):Nat->vV:=fun j=>if j=i then v else vk j
theorem jr4(u:vB)(vk:Nat->vV){i:Nat}(h:i < 16)(v:vV):(brC u vk).toArray.setIfInBounds (1+i) v=(brC u (setV vk i v)).toArray:=by
 have e:(brC u vk).set (1+i) v=brC u (setV vk i v):=by
  rw[gO];show Value.string u ::((List.range 16).map vk).set i v=Value.string u ::(List.range 16).map (setV vk i v)
  congr 1
  apply List.ext_getElem?;intro j;rw[List.getElem?_set]
  by_cases hj:i=j
  ·subst hj
   rw[if_pos rfl,if_pos (by simpa using h),cA,fB h];simp[setV]
  ·rw[if_neg hj]
   by_cases hj16:j < 16
   ·rw[cA,cA,fB hj16]
    simp[setV,Ne.symm hj]
   ·rw[iW (by simp;omega),iW (by simp;omega)]
 rw[<-e];simp
theorem jx5(u u':vB)(vk:Nat->vV):(brC u vk).toArray.setIfInBounds 0 (.string u')=(brC u' vk).toArray:=by simp[brC]
structure BrAt(u:vB)(ks:Nat->PA)(b:Nat)(vk:Nat->Value)(Dk:Nat->Nat->Prop)(D:Nat->Prop)(W:World):Prop where
 mem:D b
 blk:Blk W b (.cells (brC u vk).toArray 212)
 kid:∀ i,i < 16->PaAt (ks i) (vk i) (Dk i) W/\¬ Dk i b/\∀ x,Dk i x->D x
 apart:∀ i j,i < 16->j < 16->i≠j->∀ x,Dk i x->¬ Dk j x
 lt:∀ x,D x->x < W.heap.size
theorem BrAt.pa{u:vB}{ks:Nat->PA}{b:Nat}{vk:Nat->vV}{Dk:Nat->Nat->Prop}{D:Nat->Prop}{W:vW}(h:BrAt u ks b vk Dk D W):PaO (.br u ks) (brV b) D W:=
 ⟨⟨b,vk,Dk,rfl,h.mem,h.blk,h.kid,h.apart⟩,h.lt⟩
theorem PaO.br{u:vB}{ks:Nat->PA}{b:Nat}{D:Nat->Prop}{W:vW}(h:PaO (.br u ks) (brV b) D W):∃ o q,BrAt u ks b o q D W:=by
 obtain⟨J,o,q,e,z,A,E,H⟩:=h.at'
 unfold brV at e;injection e with _ e;injection e with e;injection e with e;injection e with e;subst e
 exact⟨o,q,z,A,E,H,h.lt⟩
theorem BrAt.keeps{F:BSet}{u:vB}{ks:Nat->PA}{b:Nat}{vk:Nat->vV}{Dk:Nat->Nat->Prop}{D:Nat->Prop}{W W':vW}(h:BrAt u ks b vk Dk D W)(k:jag F W W')(hF:∀ x,D x->¬ F x):BrAt u ks b vk Dk D W':=
 ⟨h.mem,h.blk.keeps k (hF b h.mem),fun i e=>⟨(h.kid i e).1.keeps k _ _ _ (fun x o=>hF x ((h.kid i e).2.2 x o)),(h.kid i e).2⟩,h.apart,fun x o=>bR (h.lt x o) k.size⟩
theorem BrAt.val{u:vB}{ks:Nat->PA}{b:Nat}{vk:Nat->vV}{Dk:Nat->Nat->Prop}{D:Nat->Prop}{W:vW}(h:BrAt u ks b vk Dk D W)(u':vB):BrAt u' ks b vk Dk D (W.setCell ⟨b,0,none⟩ (.string u')):=by
 have K:=jag.oneSet W ⟨b,0,none⟩ (.string u');have z:=h.blk.set_same (i:=0) (.string u');rw[jx5]at z
 exact⟨h.mem,z,fun i o=>⟨(h.kid i o).1.keeps K _ _ _ (fun x q e=>(h.kid i o).2.1 (by have e:x=b:=e;rw[<-e];exact q)),(h.kid i o).2⟩,h.apart,fun x q=>bR (h.lt x q) K.size⟩
theorem BrAt.turn{u:vB}{ks:Nat->PA}{b:Nat}{vk:Nat->vV}{Dk:Nat->Nat->Prop}{D:Nat->Prop}{W W1:vW}(h:BrAt u ks b vk Dk D W){i:Nat}(hi:i < 16){P:PA}{v:vV}(k:jag (Dk i) W W1)(hP:PaAt P v (Grow (Dk i) W W1) W1) :
  BrAt u (setK ks i P) b (setV vk i v) (fun j=>if j=i then Grow (Dk i) W W1 else Dk j) (Grow D W W1) (W1.setCell ⟨b,1+i,none⟩ v):=by
 have K:=jag.oneSet W1 ⟨b,1+i,none⟩ v;have Q:=(h.blk.keeps k (h.kid i hi).2.1).set_same (i:=1+i) v;rw[jr4 u vk hi]at Q;have X:=h.lt b h.mem
 refine⟨.inl h.mem,Q,fun j z=>?_,fun j l z O E x o q=>?_,fun x o=>?_⟩
 ·by_cases e:j=i
  ·subst e
   simp only[if_pos,jbz];rw[show setV vk j v j=v from if_pos rfl]
   refine⟨hP.keeps K _ _ _ (fun x o e=>?_),fun e=>?_,fun x o=>?_⟩
   ·have e:x=b:=e
    rw[e]at o;rcases o with o | o
    ·exact (h.kid j hi).2.1 o
    ·omega
   ·rcases e with e | e
    ·exact (h.kid j hi).2.1 e
    ·omega
   ·rcases o with o | o
    ·exact .inl ((h.kid j hi).2.2 x o)
    ·exact .inr o
  ·simp only[if_neg e]
   rw[jcS _ _ e,show setV vk i v j=vk j from if_neg e]
   refine⟨((h.kid j z).1.keeps k _ _ _ (fun x o q=>h.apart j i z hi e x o q)).keeps K _ _ _ (fun x o e=>?_),(h.kid j z).2.1,fun x o=>.inl ((h.kid j z).2.2 x o)⟩
   have e:x=b:=e;rw[e]at o;exact (h.kid j z).2.1 o
 ·have J:∀ m,m < 16->Dk m x->¬(W.heap.size<=x/\x < W1.heap.size):=fun m Z hd e=>by have:=h.lt x ((h.kid m Z).2.2 x hd);omega
  by_cases e:j=i
  ·subst e
   have H:Grow (Dk j) W W1 x:=by simpa using o
   have A:Dk l x:=by simpa [Ne.symm E]using q
   rcases H with H | H
   ·exact h.apart j l z O E x H A
   ·exact J l O A H
  ·have H:Dk j x:=by simpa [e]using o
   by_cases e2:l=i
   ·subst e2
    have A:Grow (Dk l) W W1 x:=by simpa using q
    rcases A with A | A
    ·exact h.apart j l z O E x H A
    ·exact J j z H A
   ·have A:Dk l x:=by simpa [e2]using q
    exact h.apart j l z O E x H A
 ·exact bR (jeW h.lt k x o) K.size
theorem BrAt.turn_keeps{u:vB}{ks:Nat->PA}{b:Nat}{vk:Nat->vV}{Dk:Nat->Nat->Prop}{D:Nat->Prop}{W W1:vW}(h:BrAt u ks b vk Dk D W){i:Nat}(hi:i < 16)(k:jag (Dk i) W W1)(v:vV):jag D W (W1.setCell ⟨b,1+i,none⟩ v):=
 (k.mono (fun x _ o=>(h.kid i hi).2.2 x o)).trans' (jag.oneSet W1 ⟨b,1+i,none⟩ v) (fun x _ e=>by have e:x=b:=e;rw[e];exact h.mem)
theorem jtF(W:vW)(D:Nat->Prop)(p u:vB):vQ 213 #[.agg #[],.string p,.string u] W (PaTo D W (.leaf p u)):=by
 go_enter Tryz.func213,Tryz.ntmps213;go_wp2_with fail
 go_ret;have q:=((ExtR W).alloc (.cells #[] 214)).alloc (.cells #[.string p,.string u] 205);have o:=Blk.new (W.alloc (.cells #[] 214)) (.cells #[.string p,.string u] 205);rw[bK]at o;exact PaTo.mk1 ⟨_,rfl,.inr ⟨fW _,o.lt⟩,o⟩ (q.mono (fun _ _ e=>e.elim))
theorem joS(W:vW)(D:Nat->Prop)(u0 u:vB)(ks:Nat->PA)(b:Nat)(h:PaO (.br u0 ks) (brV b) D W):vQ 198 #[.pointer (some ⟨b,0,none⟩),.string ⟨#[]⟩,.string u] W (fun e w'=>e=.returned (brV b)/\PaTo D W (.br u ks) e w'):=by
 obtain⟨A,E,hb⟩:=h.br
 have J:=hb.blk.cellL (i:=0) (v:=.string u0) vF;have O:W.frozen? ⟨b,0,none⟩=false:=hb.blk.frozen;have H:=Hd hb;have q:(⟨#[]⟩:vB).toList.isEmpty=true:=by rw[bN];rfl
 clear h hb;go_enter Tryz.func198,Tryz.ntmps198;go_wp2_with fail
 go_ret;have K:=jag.oneSet W ⟨b,0,none⟩ (.string u)
 exact⟨rfl,PaTo.mk1 ((H.o.val u).pa.at'.mono (fun x z=>.inl z)) (K.mono (fun x _ e=>by have e:x=b:=e;rw[e];exact H.o.mem))⟩
theorem jvb(W:vW)(D:Nat->Prop)(u0 u:vB)(ks:Nat->PA)(b:Nat)(h:PaO (.br u0 ks) (brV b) D W)(p:vB)(h0:p.size≠0)(hp:jaC p=true)(hs:p.size<=900000)(hn:(ks (jap p)).isNil=false)(hd:Dp (ks (jap p)) 900000)(hk:PutC (ks (jap p))) :
  vQ 198 #[.pointer (some ⟨b,0,none⟩),.string p,.string u] W (fun e w'=>e=.returned (brV b)/\PaTo D W (.br u0 (setK ks (jap p) (putP (ks (jap p)) (jbq p) u))) e w'):=by
 obtain⟨vk,Dk,hb⟩:=h.br
 obtain⟨y,t,hy⟩:=jcu h0
 obtain⟨e1,e2⟩:=jbW hy
 have q:=jd3 hp h0
 obtain⟨g0,a5⟩:=jcc hy
 have b0:=jde h0;have O:=jch hp;have a2:(jbq p).size<=900000:=by unfold jbq;rw[jaV];omega
 have hI:jap p=(p[0]'g0).toNat:=by rw[e1,a5]
 have H:=hb.kid (jap p) q
 obtain⟨T,x,Z⟩:=H.1.form hn
 have q1:=hb.blk.cellL (jeQ u0 vk q);rw[Z]at q1;have HK:=Hd hk;have HB:=Hd hb;have HM:=Hd ((show PaAt (ks (jap p)) (.iface T x) (Dk (jap p)) W by rw[<-Z];exact H.1).meth);have a7:=Hd (show PaAt (ks (jap p)) (.iface T x) (Dk (jap p)) W by rw[<-Z];exact H.1);have a8:=Hd hd;clear hb H hk hd;have a0:=Hd (show ∀ Q,Ext W Q->vQ (jjw (ks (jap p))) #[x,.string (jbq p),.string u] Q (PaTo (Dk (jap p)) Q (putP (ks (jap p)) (jbq p) u))from fun Q e=>HK.o Q T x _ _ _ ⟨a7.o.keeps e _ _ _ (fun _ _ e=>e),fun z hz=>bR (HB.o.lt z ((HB.o.kid _ q).2.2 z hz)) e.size⟩ a2 O a8.o);have hQ:=jnY T x;have Q1:=Hd q1;have a9:=Hd (show ¬(Dk (jap p) b\/W.heap.size<=b)from fun e=>e.elim (HB.o.kid _ q).2.1 (fun e=>by have:=HB.o.lt b HB.o.mem;omega));have a3:=Hd hI;have A:=Hd q;have b1:=Hd (bB O a2);have c1:(0:Int) < (p.size:Int):=vO
 have c2:((p[0]'g0).toNat:Int) < 16:=vO
 have c3:(1:Int)<=(p.size:Int):=vO
 rw[hI]at q1;have a6:(p[0]'g0).toNat < 16:=vO
 obtain⟨i,hi⟩:=vE (p[0]'g0).toNat
 have b2:=Hd hi;clear h Z hy e1 e2 h0 hp hn a5 O a2 q hI hi;go_enter Tryz.func198,Tryz.ntmps198;go_wp2_with fail
 refine jdm [0,1,2,3,4,5,6,7,8,9,10,11,12,14,15,13,16] 17 [13] Ext (jag (fun z=>Dk (jap p) z\/W.heap.size<=z)) ExtR ExtT (fun x y z h k=>jag.trans h k) (fun x y h=>h.mono (fun _ _ h=>h.elim)) vY vY vY ?_;iterate 4 refine vZ ?_
 refine jcM _ ((.pointer (some ⟨b,0,none⟩))) rfl vY rfl (fun w1=>by kernel_rfl) ?_;refine vS ?_;iterate 2 refine vZ ?_
 refine jgM ⟨b,1+(p[0]'g0).toNat,none⟩ _ rfl vY vY rfl rfl (fun w1 h1=>jaB (fun w=>by kernel_rfl) (by rw[<-a3.o];exact jaF Q1.o (((jag.refl (fun z=>Dk (jap p) z\/W.heap.size<=z) W).drew).trans h1) (by exact a9.o))) ?_;refine vS ?_;iterate 3 refine vZ ?_
 refine jcM _ (.iface T x) rfl vY rfl (fun w1=>by kernel_rfl) ?_;refine vS ?_
 refine vZ ?_
 refine jcM _ ((.pointer (some ⟨b,0,none⟩))) rfl vY rfl (fun w1=>by kernel_rfl) ?_;refine vS ?_
 refine vZ ?_
 refine jgK _ rfl vY rfl (fun Q hb K hK=>?_);have kb:Ext W Q:=(jaq _).trans hb;refine jbV (jcQ (f:=jjw (ks (jap p))) (vs:=#[.string (jbq p),.string u]) rfl (HM.o.put _) (jgC _) vY) ?_;refine (a0.o Q kb).mono ?_;rintro e w2 ⟨v2,rfl,X,J⟩
 refine⟨v2,rfl,hK _ _ (J.mono (fun z _ hz=>.inl hz)) ?_⟩
 have HS:=Hd (bB kb (bB X J));clear hK K hb kb X J;refine vS ?_
 refine vZ ?_
 refine jgL _ rfl vY rfl (fun wc hc K hK=>?_)
 obtain⟨hb,X,J⟩:=HS.o
 have E:=HB.o.keeps (F:=fun _=>False) (hb) (fun _ _ e=>e);have kc:jag (Dk (jap p)) Q wc:=J.trans (hc.mono (fun _ _ e=>e.elim));have a4:PaAt (putP (ks (jap p)) (jbq p) u) v2 (Grow (Dk (jap p)) Q wc) wc:=(X.keeps hc _ _ _ (fun _ _ e=>e)).mono (fun z hz=>hz.imp id (fun e=>⟨e.1,bR e.2 hc.size⟩))
 obtain⟨T2,x2,rfl⟩:=a4.form (jgU _ _ _)
 have ht:=E.turn A.o kc a4;have a1:=E.turn_keeps A.o kc (.iface T2 x2)
 obtain⟨old,q7⟩:∃ v,wc.cell? ⟨b,1+jap p,none⟩=some v:=⟨_,(E.blk.keeps kc (E.kid _ A.o).2.1).cellL (bA (by rw[jhf];have:=A.o;omega))⟩
 have f7:wc.frozen? ⟨b,1+jap p,none⟩=false:=(E.blk.keeps kc (E.kid _ A.o).2.1).frozen;have HT:=Hd (bB ht (bB a1 hb));rw[a3.o]at q7 f7;clear hb X J E kc a4 ht a1 hc;go_simp;refine hK _ _ ?_;clear hK K q7 f7;go_wp2_with fail
 go_ret
 obtain⟨ht,a1,hb⟩:=HT.o
 rw[<-a3.o]
 exact⟨rfl,PaTo.mk1 (ht.pa.at'.mono (fun z hz=>hz.imp id (fun e=>⟨bH hb.size e.1,bR e.2 (jag.oneSet wc ⟨b,1+jap p,none⟩ (.iface T2 x2)).size⟩))) (((hb.mono (fun _ _ e=>e.elim)):jag D W Q).trans a1)⟩
theorem joR(W:vW)(D:Nat->Prop)(u0 u:vB)(ks:Nat->PA)(b:Nat)(h:PaO (.br u0 ks) (brV b) D W)(p:vB)(h0:p.size≠0)(hp:jaC p=true)(hs:p.size<=900000)(hn:(ks (jap p)).isNil=true) :
  vQ 198 #[.pointer (some ⟨b,0,none⟩),.string p,.string u] W (fun e w'=>e=.returned (brV b)/\PaTo D W (.br u0 (setK ks (jap p) (.leaf (jbq p) u))) e w'):=by
 obtain⟨vk,Dk,hb⟩:=h.br
 obtain⟨y,t,hy⟩:=jcu h0
 obtain⟨e1,e2⟩:=jbW hy
 have q:=jd3 hp h0
 obtain⟨g0,a9⟩:=jcc hy
 have b9:=jde h0;have a2:=jch hp;have b0:(jbq p).size<=900000:=by unfold jbq;rw[jaV];omega
 have hI:jap p=(p[0]'g0).toNat:=by rw[e1,a9]
 have a3:=hb.kid (jap p) q;have b1:vk (jap p)=.nilIface:=by have:=a3.1;rw[jbw hn]at this;exact this
 have q1:=hb.blk.cellL (jeQ u0 vk q);rw[b1]at q1;have f1:W.frozen? ⟨b,1+jap p,none⟩=false:=hb.blk.frozen
 obtain⟨W1,J⟩:=vE (W.setCell ⟨b,1+jap p,none⟩ noV)
 have X:=hb.turn q (P:=.no) (v:=noV) (jag.refl _ W) rfl;rw[<-J]at X
 obtain⟨O,a4⟩:=vE (fun j=>if j=jap p then Grow (Dk (jap p)) W W else Dk j)
 obtain⟨b6,Z⟩:=vE (setK ks (jap p) .no)
 have a5:setK b6 (jap p) (.leaf (jbq p) u)=setK ks (jap p) (.leaf (jbq p) u):=by
  funext j;unfold setK;rw[Z];unfold setK
  by_cases e:j=jap p
  ·rw[if_pos e,if_pos e]
  ·rw[if_neg e,if_neg e,if_neg e]
 rw[<-a4, <-Z]at X;have b2:W1.cell? ⟨b,1+jap p,none⟩=some noV:=by
  have:=X.blk.cellL (jeQ u0 _ q)
  rw[this];show some (setV vk (jap p) noV (jap p))=_;unfold setV;rw[if_pos rfl]
 have c0:=Hd J;have b7:=Hd a5;have b3:Hid (∀ z,Grow D W W z->D z):=(fun z H=>H.elim id (fun e=>by omega));have b4:=Hd (show jag D W W1 by rw[J];exact (jag.oneSet W ⟨b,1+jap p,none⟩ noV).mono (fun z _ e=>by have e:z=b:=e;rw[e];exact hb.mem));have HB:=Hd X;have Q1:=Hd b2;clear a4 Z X b2 a5 hb a3;unfold noV at J Q1;have a0:=Hd (show ∀ wb,Ext W1 wb->vQ 213 #[.agg #[],.string (jbq p),.string u] wb (PaTo (O (jap p)) wb (.leaf (jbq p) u))from fun wb _=>jtF wb _ _ _);have b8:=Hd (show ¬(O (jap p) b\/W1.heap.size<=b)from fun e=>e.elim (HB.o.kid _ q).2.1 (fun e=>by have:=HB.o.lt b HB.o.mem;omega));have a7:=Hd hI;have A:=Hd q;have c4:=Hd (bB a2 b0);have c1:(0:Int) < (p.size:Int):=vO
 have c2:((p[0]'g0).toNat:Int) < 16:=vO
 have c3:(1:Int)<=(p.size:Int):=vO
 rw[hI]at q1 f1 J;have b5:(p[0]'g0).toNat < 16:=vO
 obtain⟨i,hi⟩:=vE (p[0]'g0).toNat
 have c5:=Hd hi;clear h b1 hy e1 e2 h0 hp hn a9 a2 b0 q hI hi;go_enter Tryz.func198,Tryz.ntmps198;go_wp2_with fail
 rw[<-J];refine jdm [0,1,2,3,4,5,6,7,8,9,10,11,12,14,15,13,16] 17 [13] Ext (jag (fun z=>O (jap p) z\/W1.heap.size<=z)) ExtR ExtT (fun x y z h k=>jag.trans h k) (fun x y h=>h.mono (fun _ _ h=>h.elim)) vY vY vY ?_;iterate 4 refine vZ ?_
 refine jcM _ ((.pointer (some ⟨b,0,none⟩))) rfl vY rfl (fun w1=>by kernel_rfl) ?_;refine vS ?_;iterate 2 refine vZ ?_
 refine jgM ⟨b,1+(p[0]'g0).toNat,none⟩ _ rfl vY vY rfl rfl (fun w1 h1=>jaB (fun w=>by kernel_rfl) (by rw[<-a7.o];exact jaF Q1.o (((jag.refl (fun z=>O (jap p) z\/W1.heap.size<=z) W1).drew).trans h1) (by exact b8.o))) ?_;refine vS ?_;iterate 3 refine vZ ?_
 refine jcM _ (.iface 214 (.agg #[])) rfl vY rfl (fun w1=>by kernel_rfl) ?_;refine vS ?_
 refine vZ ?_
 refine jcM _ ((.pointer (some ⟨b,0,none⟩))) rfl vY rfl (fun w1=>by kernel_rfl) ?_;refine vS ?_
 refine vZ ?_
 refine jgK _ rfl vY rfl (fun wb hb K hK=>?_);have kb:Ext W1 wb:=(jaq _).trans hb;refine jbV (jcQ (f:=213) (vs:=#[.string (jbq p),.string u]) rfl (jyJ.put _) (fun args w=>by kernel_rfl) vY) ?_;refine (a0.o wb kb).mono ?_;rintro e w2 ⟨v2,rfl,a1,Q⟩
 refine⟨v2,rfl,hK _ _ (Q.mono (fun z _ H=>.inl H)) ?_⟩
 have HS:=Hd (bB kb (bB a1 Q));clear hK K hb kb a1 Q;refine vS ?_
 refine vZ ?_
 refine jgL _ rfl vY rfl (fun wc hc K hK=>?_)
 obtain⟨hb,a1,Q⟩:=HS.o
 have E:=HB.o.keeps (F:=fun _=>False) (hb) (fun _ _ e=>e);have kc:jag (O (jap p)) wb wc:=Q.trans (hc.mono (fun _ _ e=>e.elim));have a8:PaAt (PA.leaf (jbq p) u) v2 (Grow (O (jap p)) wb wc) wc:=(a1.keeps hc _ _ _ (fun _ _ e=>e)).mono (fun z H=>H.imp id (fun e=>⟨e.1,bR e.2 hc.size⟩))
 obtain⟨T2,x2,rfl⟩:=a8.form rfl
 have ht:=E.turn A.o kc a8;have a6:=E.turn_keeps A.o kc (.iface T2 x2)
 obtain⟨old,q7⟩:∃ v,wc.cell? ⟨b,1+jap p,none⟩=some v:=⟨_,(E.blk.keeps kc (E.kid _ A.o).2.1).cellL (bA (by rw[jhf];have:=A.o;omega))⟩
 have f7:wc.frozen? ⟨b,1+jap p,none⟩=false:=(E.blk.keeps kc (E.kid _ A.o).2.1).frozen;have HT:=Hd (bB ht (bB a6 hb));rw[a7.o]at q7 f7;clear hb a1 Q E kc a8 ht a6 hc;go_simp;refine hK _ _ ?_;clear hK K q7 f7;go_wp2_with fail
 go_ret
 obtain⟨ht,a6,hb⟩:=HT.o
 rw[<-a7.o];have a5:=b7.o
 refine⟨rfl,PaTo.mk1 (PaAt.mono (fun z H=>?_) (by rw[<-a5];exact ht.pa.at')) ((b4.o.trans (hb.mono (fun _ _ e=>e.elim))).trans (a6.mono (fun z _ H=>b3.o z H)))⟩
 rcases H with H | H
 ·exact .inl (b3.o z H)
 ·exact .inr ⟨bH (bH b4.o.size hb.size) H.1,bR H.2 (jag.oneSet wc ⟨b,1+jap p,none⟩ (.iface T2 x2)).size⟩
end
section
attribute [local go_sem] Oper.semAt_some
def AddP(D:Nat->Prop)(W:vW)(b:Nat)(P:PA)(e:Ending)(w':vW):Prop:=e=.returned (brV b)/\PaAt P (brV b) (Grow D W w') w'/\jag D W w'
theorem jkC(W:vW)(D:Nat->Prop)(v:vB)(ks:Nat->PA)(b:Nat)(h:PaO (.br v ks) (brV b) D W)(p u:vB)(hp:jaC p=true)(hs:p.size<=900000)(hf:∀ x t,p.data.toList=x :: t->(ks x.toNat).isNil=true) :
  vQ 198 #[.pointer (some ⟨b,0,none⟩),.string p,.string u] W (AddP D W b (addK (.br v ks) p u)):=by
 rw[jce]
 by_cases h0:p.size=0
 ·rw[if_pos h0,ja1 h0]
  refine (joS W D v u ks b h).mono ?_;rintro e w' ⟨rfl,A,e,o,q⟩;injection e with e;subst e
  exact⟨rfl,o,q⟩
 ·rw[if_neg h0]
  obtain⟨x,t,z⟩:=jcu h0
  refine (joR W D v u ks b h p h0 hp hs (by rw[(jbW z).1];exact hf x t z)).mono ?_;rintro e w' ⟨rfl,A,e,o,q⟩;injection e with e;subst e
  exact⟨rfl,o,q⟩
theorem jxe{W:vW}{b:Nat}(h:Blk W b (.cells #[.string ⟨#[]⟩,.nilIface,.nilIface,.nilIface,.nilIface,.nilIface,.nilIface,.nilIface,.nilIface,.nilIface,.nilIface,.nilIface,.nilIface,.nilIface,.nilIface,.nilIface,.nilIface] 212)) :
  BrAt ⟨#[]⟩ (fun _=>.nil) b (fun _=>.nilIface) (fun _ _=>False) (fun x=>x=b) W:=
 ⟨rfl,h,fun i _=>⟨rfl,fun e=>e,fun _ e=>e.elim⟩,fun _ _ _ _ _ _ e=>e.elim,fun x e=>by rw[e];exact h.lt⟩
theorem AddP.br{D:Nat->Prop}{W w':vW}{b:Nat}{P:PA}(h:PaAt P (brV b) (Grow D W w') w')(k:jag D W w')(hl:∀ x,D x->x < W.heap.size):PaO P (brV b) (Grow D W w') w':=⟨h,jeW hl k⟩
theorem jtb(W:vW)(D:Nat->Prop)(q v u:vB)(b:Nat)(o:Blk W b (.cells #[.string q,.string v] 205)):vQ 197 #[.pointer (some ⟨b,0,none⟩),.string q,.string u] W (PaTo D W (.leaf q u)):=by
 have A:=o.cell (i:=0) (v:=.string q) vF;clear o;have z:(q.toList == q.toList)=true:=by simp
 go_enter Tryz.func197,Tryz.ntmps197;go_wp2_with fail
 go_ret;have o:=Blk.new W (.cells #[.string q,.string u] 205);exact PaTo.mk1 ⟨_,rfl,.inr ⟨bL _,o.lt⟩,o⟩ (((ExtR W).alloc _).mono (fun _ _ e=>e.elim))
theorem jwS(q p v:vB):(∀ x t,(q.extract (jam q p) q.size).data.toList=x :: t->PA.isNil ((fun _=>PA.nil) x.toNat)=true)/\∃ v1 ks1,addK (.br ⟨#[]⟩ fun _=>.nil) (q.extract (jam q p) q.size) v=.br v1 ks1/\∀ x t,(p.extract (jam q p) p.size).data.toList=x :: t->(ks1 x.toNat).isNil=true:=by
 refine⟨fun _ _ _=>rfl,?_⟩
 obtain⟨J,K,Z,hb,o,z,A⟩:=jcU q.data.toList p.data.toList
 have e:(q.extract (jam q p) q.size).data.toList=J:=by rw[jd2,o];rfl
 have E:(p.extract (jam q p) p.size).data.toList=K:=by rw[jd2,z];rfl
 obtain⟨O,Q⟩:∃ x,x=q.extract (jam q p) q.size:=⟨_,rfl⟩
 rw[<-Q]at e ⊢;rw[jce]
 by_cases h0:O.size=0
 ·rw[if_pos h0];exact⟨_,_,rfl,fun _ _ _=>rfl⟩
 ·rw[if_neg h0]
  refine⟨_,_,rfl,fun y t X=>?_⟩
  obtain⟨x,s,H⟩:=jcu h0
  unfold setK;rw[(jbW H).1,if_neg (jdl (Ne.symm (A x s y t (by rw[<-e,H]) (by rw[<-E,X]))))];rfl
theorem jq7(W:vW)(D:Nat->Prop)(q v p u:vB)(b:Nat)(hB:Blk W b (.cells #[.string q,.string v] 205))(hne:p≠q)(hq:jaC q=true)(hp:jaC p=true)(hqs:q.size<=900000)(hps:p.size<=900000) :
  vQ 197 #[.pointer (some ⟨b,0,none⟩),.string p,.string u] W (PaTo D W (putP (.leaf q v) p u)):=by
 have q0:=hB.cell (i:=0) (v:=.string q) vF;have Q0:=Hd q0;have Q1:=Hd (hB.cell (i:=1) (v:=.string v) vF);have HB:=Hd hB;have d3:(p.toList == q.toList)=false:=by rw[jej];exact decide_eq_false hne
 obtain⟨c1,c2⟩:=jfh q p
 have Q:putP (.leaf q v) p u=jbX (p.extract 0 (jam q p)) (addK (addK (.br ⟨#[]⟩ fun _=>.nil) (q.extract (jam q p) q.size) v) (p.extract (jam q p) p.size) u):=by
  show (if p=q then PA.leaf p u else _)=_;rw[if_neg hne]
 have X:=jwS q p v;have Z:=fun w=>jfL w q p vO vO
 obtain⟨m,hm⟩:=vE (jam q p)
 rw[<-hm]at c1 c2 Q X Z;rw[Q];have b0:(q.extract m q.size).size<=900000:=by rw[jaV];omega
 have b1:(p.extract m p.size).size<=900000:=by rw[jaV];omega
 have b2:(p.extract 0 m).size<=900000:=by rw[cL];omega
 have b3:jaC (q.extract m q.size)=true:=jaW hq _ _;have b4:jaC (p.extract m p.size)=true:=jaW hp _ _
 obtain⟨E,v1,a1,e1,H⟩:=X
 have b5:Dp (addK (.br v1 a1) (p.extract m p.size) u) 1000000:=jiz (by rw[<-e1];exact jiz (jh3 _ _) vO _) vO _;have b6:(addK (.br v1 a1) (p.extract m p.size) u).isNil=false:=by rw[jce];split <;> rfl
 rw[e1];have HF:=Hd (bB (bB E (bB e1 H)) (bB b0 (bB b1 (bB b2 (bB b3 b4)))));have b7:=Hd (bB b5 b6);have HC:=Hd Z;have d4:(m:Int)<=(q.size:Int):=vO
 have d5:(m:Int)<=(p.size:Int):=vO
 clear hB hne hq hp Q hm E H e1 b5 b6 b0 b1 b2 b3 b4 Z;go_enter Tryz.func197,Tryz.ntmps197;go_wp2_with fail
 refine (HC.o _).mono ?_;rintro e w1 ⟨rfl,n,rfl⟩;go_wp2_with fail
 obtain⟨A,a2⟩:=vE W.heap.size
 obtain⟨W2,a3⟩:=vE ((W.drewN n).alloc (.cells #[.string ⟨#[]⟩,.nilIface,.nilIface,.nilIface,.nilIface,.nilIface,.nilIface,.nilIface,.nilIface,.nilIface,.nilIface,.nilIface,.nilIface,.nilIface,.nilIface,.nilIface,.nilIface] 212))
 have b8:Ext W W2:=by rw[a3];exact ((ExtR W).drewN n).alloc _
 have b9:BrAt ⟨#[]⟩ (fun _=>.nil) A (fun _=>.nilIface) (fun _ _=>False) (fun x=>x=A) W2:=by rw[a3,a2];exact jxe (Blk.new (W.drewN n) _)
 have c0:W.heap.size<=A:=by rw[a2];exact bL _
 have a4:=Hd b8;have c3:=Hd b9;have a8:=Hd c0;have c4:=Hd (show ¬ W.heap.size<=b from by have:=HB.o.lt;omega);rw[<-a3, <-a2];clear a2 a3 b8 b9 c0;refine ja5 [0,1,2,3,4,5,6,7,8,9,10,11] [11] Ext (jag (fun z=>W.heap.size<=z)) ExtR ExtT (fun x y z h k=>jag.trans h k) (fun x y h=>h.mono (fun _ _ h=>h.elim)) vY vY vY ?_;iterate 2 refine vD ?_
 refine qDV _ ((.pointer (some ⟨b,0,none⟩))) rfl (fun w1 _=>by kernel_rfl) ?_;refine vS ?_
 refine vD ?_
 refine qDL ⟨b,0,none⟩ _ rfl (fun w1 h1=>jaB (fun w=>by kernel_rfl) (jaF (jaa Q0.o a4.o) (((jag.refl (fun z=>W.heap.size<=z) W2).drew).trans h1) (by exact c4.o))) ?_;refine vS ?_;iterate 3 refine vD ?_
 refine qDV _ ((.pointer (some ⟨b,0,none⟩))) rfl (fun w1 _=>by kernel_rfl) ?_;refine vS ?_
 refine vD ?_
 refine qDL ⟨b,1,none⟩ _ rfl (fun w1 h1=>jaB (fun w=>by kernel_rfl) (jaF (jaa Q1.o a4.o) (((jag.refl (fun z=>W.heap.size<=z) W2).drew).trans h1) (by exact c4.o))) ?_;refine vS ?_;refine qDH _ rfl (fun wb hb K hK=>?_);have kb:Ext W2 wb:=(jaq _).trans hb
 obtain⟨E,e1,H⟩:=HF.o.1
 refine jbV (jaG (vX 198) vY) ((jkC wb (fun x=>x=A) ⟨#[]⟩ (fun _=>.nil) A ((c3.o.keeps kb (fun _ _ e=>e)).pa) (q.extract m q.size) v HF.o.2.2.2.2.1 HF.o.2.1 E).mono ?_);rintro e w3 ⟨rfl,J,O⟩
 refine⟨_,rfl,hK _ _ (O.mono (fun z _ e=>by have e:z=A:=e;rw[e];exact a8.o)) ?_⟩
 rw[e1]at J;have HS:=Hd (bB kb (bB J O));clear hK K hb kb J O e1;refine vS ?_;refine jcA vY (fun wc hc=>?_)
 obtain⟨kb,J,O⟩:=HS.o
 have kc:jag (fun x=>x=A) wb wc:=O.trans (hc.mono (fun _ _ e=>e.elim));have c5:PaAt (.br v1 a1) (brV A) (Grow (fun x=>x=A) wb wc) wc:=(J.keeps hc _ _ _ (fun _ _ e=>e)).mono (fun z hz=>hz.imp id (fun e=>⟨e.1,bR e.2 hc.size⟩));have c6:=AddP.br c5 kc (fun x e=>by have e:x=A:=e;rw[e];exact bR c3.o.blk.lt kb.size);have c7:Ext W wc:=(a4.o.trans kb).trans' kc (fun x hx e=>by have e:x=A:=e;have:=a8.o;omega);have a5:=Hd (bB c6 c7);have c8:Hid (∀ x,Grow (fun x=>x=A) wb wc x->W.heap.size<=x):=(fun x hx=>hx.elim (fun e=>by rw[e];exact a8.o) (fun e=>bH (bH a4.o.size kb.size) e.1));clear hc kb J O kc c5 c6 c7 HS;go_wp2_with fail
 obtain⟨E,e1,H⟩:=HF.o.1
 refine (jkC wc _ v1 a1 A a5.o.1 (p.extract m p.size) u HF.o.2.2.2.2.2 HF.o.2.2.1 H).mono ?_;rintro e w4 ⟨rfl,c9,a9⟩;have d0:=AddP.br c9 a9 a5.o.1.lt;have d1:Ext W w4:=a5.o.2.trans' a9 (fun x hx e=>by have:=c8.o x e;omega);have d2:Hid (∀ x,Grow (Grow (fun x=>x=A) wb wc) wc w4 x->W.heap.size<=x):=fun x hx=>hx.elim (c8.o x) (fun e=>bH a5.o.2.size e.1);have a6:=Hd (bB d0 d1);clear c9 a9 d0 d1 e1 E H;unfold brV;go_wp2_with fail
 refine (pj_c w4 _ (p.extract 0 m) _ (brV A) a6.o.1 b7.o.2 (by have:=HF.o.2.2.2.1;omega) b7.o.1).mono ?_;rintro e w5 ⟨v5,rfl,a7,a0⟩;have HZ:=Hd (bB a7 a0);clear a7 a0;go_wp2_with fail
 go_ret
 obtain⟨a7,a0⟩:=HZ.o
 exact PaTo.mk1 (a7.mono (fun x hx=>.inr ⟨hx.elim (d2.o x) (fun e=>bH a6.o.2.size e.1),(jeW a6.o.1.lt a0) x hx⟩)) ((a6.o.2.trans a0).mono (fun _ _ e=>e.elim))
theorem BrAt.give{u:vB}{ks:Nat->PA}{b:Nat}{vk:Nat->vV}{Dk:Nat->Nat->Prop}{D E:Nat->Prop}{W:vW}(h:BrAt u ks b vk Dk D W){i:Nat}(hi:i < 16){P:PA}{v:vV}(hP:PaAt P v E W)(hE:∀ x,E x->¬ D x/\x < W.heap.size) :
  BrAt u (setK ks i P) b (setV vk i v) (fun j=>if j=i then E else Dk j) (fun x=>D x\/E x) (W.setCell ⟨b,1+i,none⟩ v):=by
 have K:=jag.oneSet W ⟨b,1+i,none⟩ v;have O:=h.blk.set_same (i:=1+i) v;rw[jr4 u vk hi]at O
 refine⟨.inl h.mem,O,fun j q=>?_,fun j l q Q A x o z=>?_,fun x o=>?_⟩
 ·by_cases e:j=i
  ·subst e
   simp only[if_pos,jbz];rw[show setV vk j v j=v from if_pos rfl]
   refine⟨hP.keeps K _ _ _ (fun x o e=>?_),fun e=>(hE b e).1 h.mem,fun x o=>.inr o⟩
   have e:x=b:=e;rw[e]at o;exact (hE b o).1 h.mem
  ·simp only[if_neg e]
   rw[jcS _ _ e,show setV vk i v j=vk j from if_neg e]
   refine⟨(h.kid j q).1.keeps K _ _ _ (fun x o e=>?_),(h.kid j q).2.1,fun x o=>.inl ((h.kid j q).2.2 x o)⟩
   have e:x=b:=e;rw[e]at o;exact (h.kid j q).2.1 o
 ·by_cases e:j=i
  ·subst e
   have J:E x:=by simpa using o
   have H:Dk l x:=by simpa [Ne.symm A]using z
   exact (hE x J).1 ((h.kid l Q).2.2 x H)
  ·have J:Dk j x:=by simpa [e]using o
   by_cases e2:l=i
   ·subst e2
    have H:E x:=by simpa using z
    exact (hE x H).1 ((h.kid j q).2.2 x J)
   ·have H:Dk l x:=by simpa [e2]using z
    exact h.apart j l q Q A x J H
 ·rcases o with o | o
  ·exact bR (h.lt x o) K.size
  ·exact bR (hE x o).2 K.size
theorem jyt{q:vB}{m:Nat}(h:m < q.size):jap (q.extract m q.size)=(q[m]).toNat:=by
 unfold jap;have e:m < q.data.toList.length:=by rw[jaI];exact h
 rw[jd2,iM e];rfl
theorem jyh(W:vW)(D:Nat->Prop)(q:vB)(n:PA)(T:TypeId)(x:vV)(Dn:Nat->Prop)(b:Nat)(hB:Blk W b (.cells #[.string q,.iface T x] 208))(hv:PaAt n (.iface T x) Dn W)(hbn:¬ Dn b)(hD:∀ x,Dn x->D x/\x < W.heap.size)(p u:vB)(hq:jaC q=true)(hp:jaC p=true)(hqs:q.size<=900000)(hps:p.size<=900000)(X:Dp n 900000)(hk:PutC n)(hnil:n.isNil=false)(hf:jam q p=q.size) :
  vQ 203 #[.pointer (some ⟨b,0,none⟩),.string p,.string u] W (PaTo D W (jbX q (putP n (p.extract q.size p.size) u))):=by
 have q0:=hB.cell (i:=0) (v:=.string q) vF;have q1:=hB.cell (i:=1) (v:=.iface T x) vF;have Q0:=Hd q0;have Q1:=Hd q1;have HB:=Hd hB;have HV:=Hd hv;have HD:Hid (∀ z,Dn z->D z/\z < W.heap.size):=hD
 obtain⟨c1,c2⟩:=jfh q p
 have J:=fun w=>jfL w q p vO vO;rw[hf]at c1 c2 J;have HC:=Hd J;have a9:=hB.lt;have a5:=Hd (show ¬(Dn b\/W.heap.size<=b)from fun e=>e.elim hbn (fun e=>by omega));have a1:jaC (p.extract q.size p.size)=true:=jaW hp _ _;have a3:(p.extract q.size p.size).size<=900000:=by rw[jaV];omega
 have HM:=Hd hv.meth;have a0:=Hd (show ∀ O,Ext W O->vQ (jjw n) #[x,.string (p.extract q.size p.size),.string u] O (PaTo Dn O (putP n (p.extract q.size p.size) u))from fun O e=>hk O T x Dn _ _ ⟨hv.keeps e _ _ _ (fun _ _ e=>e),fun z A=>bR (hD z A).2 e.size⟩ a3 a1 X);have b0:Hid (Dp (putP n (p.extract q.size p.size) u) 1000000):=(jbO _ _ _ (jml n 900000 _ u X a3) vO);have b2:(q.size:Int)<=(p.size:Int):=vO
 have b3:((q.size:Int) ==(q.size:Int))=true:=by simp
 clear hB hv hbn hD hq hp X hk hf a1 a3 J a9;go_enter Tryz.func203,Tryz.ntmps203;go_wp2_with fail
 refine (HC.o _).mono ?_;rintro e w1 ⟨rfl,k,rfl⟩;have a6:=Hd (show jag (fun z=>Dn z\/W.heap.size<=z) W ((W.drewN k).drew)from((jag.refl _ W).drewN k).drew);go_wp2_with fail
 refine ja5 [0,1,2,3,4,5,6,7,8,9,10,11,12,13,14,15,16] [14,15] Ext (jag (fun z=>Dn z\/W.heap.size<=z)) ExtR ExtT (fun x y z h k=>jag.trans h k) (fun x y h=>h.mono (fun _ _ h=>h.elim)) vY vY vY ?_
 refine vD ?_
 refine qDV _ ((.pointer (some ⟨b,0,none⟩))) rfl (fun w1 _=>by kernel_rfl) ?_;refine vS ?_
 refine vD ?_
 refine qDL ⟨b,0,none⟩ _ rfl (fun w1 h1=>jaB (fun w=>by kernel_rfl) (jaF Q0.o (a6.o.trans h1) (by exact a5.o))) ?_;refine vS ?_
 refine vD ?_
 refine qDV _ ((.pointer (some ⟨b,0,none⟩))) rfl (fun w1 _=>by kernel_rfl) ?_;refine vS ?_
 refine vD ?_
 refine qDL ⟨b,1,none⟩ _ rfl (fun w1 h1=>jaB (fun w=>by kernel_rfl) (jaF Q1.o (a6.o.trans h1) (by exact a5.o))) ?_;refine vS ?_;iterate 4 refine vD ?_
 refine qDV _ (.iface T x) rfl (fun w1 _=>by kernel_rfl) ?_;refine vS ?_
 refine vD ?_
 refine qDH _ rfl (fun O hb K hK=>?_);have Z:Ext W O:=(((ExtR W).drewN k).drew).trans hb;refine jbV (jcQ (f:=jjw n) (vs:=#[.string (p.extract q.size p.size),.string u]) rfl (HM.o.put _) (jgC _) vY) ?_;refine (a0.o O Z).mono ?_;rintro e w2 ⟨v2,rfl,Q,E⟩
 refine⟨v2,rfl,hK _ _ (E.mono (fun z _ A=>.inl A)) ?_⟩
 have HS:=Hd (bB Z (bB Q E));clear hK K hb Z Q E;refine vS ?_;refine qDH _ rfl (fun wc hc K hK=>?_)
 obtain⟨Z,Q,E⟩:=HS.o
 have kc:jag Dn O wc:=E.trans (hc.mono (fun _ _ e=>e.elim));have a7:PaAt (putP n (p.extract q.size p.size) u) v2 (Grow Dn O wc) wc:=(Q.keeps hc _ _ _ (fun _ _ e=>e)).mono (fun z A=>A.imp id (fun e=>⟨e.1,bR e.2 hc.size⟩));have a4:=PaTo.own a7 kc (fun z A=>bR (HD.o z A).2 Z.size);refine jbV (jaG (vX 199) vY) ((pj_c wc _ q _ v2 a4 (jgU _ _ _) vO b0.o).mono ?_);rintro e w5 ⟨v5,rfl,a2,H⟩
 refine⟨v5,rfl,hK _ _ (H.mono (fun _ _ e=>e.elim)) ?_⟩
 have HZ:=Hd (bB kc (bB a2 (bB H (jeW a4.lt H))));clear hK K hc Z Q E kc a7 a4 a2 H;refine vS ?_
 refine vD ?_
 refine jcA vY (fun wd X=>?_);have HQ:=Hd X;clear X;go_wp2_with fail
 go_ret
 obtain⟨Z,_,_⟩:=HS.o
 obtain⟨kc,a2,H,b1⟩:=HZ.o
 have X:=HQ.o;refine PaTo.mk1 ((a2.keeps X _ _ _ (fun _ _ e=>e)).mono (fun z A=>?_)) (((Z.mono (fun _ _ e=>e.elim):jag D W O).trans (kc.mono (fun z _ A=>(HD.o z A).1))).trans ((H.trans X).mono (fun _ _ e=>e.elim)));have a8:=bR (b1 z A) X.size;rcases A with (A | A) | A
 ·exact .inl (HD.o z A).1
 ·exact .inr ⟨bH Z.size A.1,a8⟩
 ·exact .inr ⟨bH (bH Z.size kc.size) A.1,a8⟩
theorem jvx(q p:vB)(n:PA)(h:jam q p < q.size):∀ x t,(p.extract (jam q p) p.size).data.toList=x :: t->(setK (fun _=>.nil) (jap (q.extract (jam q p) q.size)) (jbX (q.extract (jam q p+1) q.size) n) x.toNat).isNil=true:=by
 obtain⟨J,K,X,hb,e,o,z⟩:=jcU q.data.toList p.data.toList
 have A:(q.extract (jam q p) q.size).data.toList=J:=by rw[jd2,e];rfl
 have E:(p.extract (jam q p) p.size).data.toList=K:=by rw[jd2,o];rfl
 have O:(q.extract (jam q p) q.size).size≠0:=by rw[jaV];omega
 intro y t Q
 obtain⟨x,s,H⟩:=jcu O
 unfold setK;rw[(jbW H).1,if_neg (jdl (Ne.symm (z x s y t (by rw[<-A,H]) (by rw[<-E,Q]))))];rfl
theorem jvv(W:vW)(D:Nat->Prop)(q:vB)(n:PA)(T:TypeId)(x:vV)(Dn:Nat->Prop)(b:Nat)(hB:Blk W b (.cells #[.string q,.iface T x] 208))(hv:PaAt n (.iface T x) Dn W)(hbn:¬ Dn b)(hD:∀ x,Dn x->D x/\x < W.heap.size)(p u:vB)(hq:jaC q=true)(hp:jaC p=true)(hqs:q.size<=900000)(hps:p.size<=900000)(hd:Dp n (900000 - q.size))(hnil:n.isNil=false)(hf:jam q p≠q.size) :
  vQ 203 #[.pointer (some ⟨b,0,none⟩),.string p,.string u] W (PaTo D W (jbX (p.extract 0 (jam q p)) (addK (.br ⟨#[]⟩ (setK (fun _=>.nil) (jap (q.extract (jam q p) q.size)) (jbX (q.extract (jam q p+1) q.size) n))) (p.extract (jam q p) p.size) u))):=by
 have q0:=hB.cell (i:=0) (v:=.string q) vF;have q1:=hB.cell (i:=1) (v:=.iface T x) vF;have Q0:=Hd q0;have Q1:=Hd q1;have HB:=Hd hB;have HV:=Hd hv;have HD:Hid (∀ z,Dn z->D z/\z < W.heap.size):=hD
 obtain⟨c1,c2⟩:=jfh q p
 have X:=fun w=>jfL w q p vO vO;have H:=jvx q p n (show jam q p < q.size by omega)
 obtain⟨m,hm⟩:=vE (jam q p)
 rw[<-hm]at c1 c2 X hf H ⊢;have HC:=Hd X;have d4:=hB.lt;have b2:=Hd (show ¬ W.heap.size<=b from by omega);have b8:m < q.size:=vO
 have b9:jap (q.extract m q.size) < 16:=jd3 (jaW hq _ _) (by rw[jaV];omega);have b3:=jyt b8;have b4:=Hd (bB b9 b3);have c0:=Hd (bB (jaW hp m p.size) (show (p.extract m p.size).size<=900000 by rw[jaV];omega));have a5:=Hd (bB hnil (bB (show (q.extract (m+1) q.size).size<=900000 by rw[jaV];omega) hd));have c3:Dp (jbX (q.extract (m+1) q.size) n) (900000 - m - 1):=jge (jbO _ _ _ hd (by rw[jaV];omega)) (by rw[jaV];omega);have c4:Dp (addK (.br ⟨#[]⟩ (setK (fun _=>.nil) (jap (q.extract m q.size)) (jbX (q.extract (m+1) q.size) n))) (p.extract m p.size) u) (900000 - m):=jiz (jiA (jh3 ⟨#[]⟩ _) vO c3 _) (by rw[jaV];omega) _;have c5:(addK (.br ⟨#[]⟩ (setK (fun _=>.nil) (jap (q.extract m q.size)) (jbX (q.extract (m+1) q.size) n))) (p.extract m p.size) u).isNil=false:=by rw[jce];split <;> rfl
 have c6:=Hd (bB c4 c5);have d5:=Hd H;have a3:(p.extract 0 m).size<=900000:=by rw[cL];omega
 have d6:=Hd a3;have d7:(m:Int)<=(q.size:Int):=vO
 have d8:(m:Int)<=(p.size:Int):=vO
 have d9:(m:Int) < (q.size:Int):=vO
 have e0:(m:Int)+1<=(q.size:Int):=vO
 have e1:((q[m]'b8).toNat:Int) < 16:=by rw[<-b3];omega
 have e2:((m:Int) ==(q.size:Int))=false:=by simp;omega
 clear hB hv hbn hD hq hp hd hf X d4 H b9 b3 c3 c4 c5 hnil hm a3;go_enter Tryz.func203,Tryz.ntmps203;go_wp2_with fail
 refine (HC.o _).mono ?_;rintro e w1 ⟨rfl,k,rfl⟩;go_wp2_with fail
 obtain⟨E,a6⟩:=vE W.heap.size
 obtain⟨W2,a7⟩:=vE ((W.drewN k).alloc (.cells #[.string ⟨#[]⟩,.nilIface,.nilIface,.nilIface,.nilIface,.nilIface,.nilIface,.nilIface,.nilIface,.nilIface,.nilIface,.nilIface,.nilIface,.nilIface,.nilIface,.nilIface,.nilIface] 212))
 have c7:Ext W W2:=by rw[a7];exact ((ExtR W).drewN k).alloc _
 have c8:BrAt ⟨#[]⟩ (fun _=>.nil) E (fun _=>.nilIface) (fun _ _=>False) (fun x=>x=E) W2:=by rw[a7,a6];exact jxe (Blk.new (W.drewN k) _)
 have c9:W.heap.size<=E:=by rw[a6];exact bL _
 have J:=Hd c7;have a8:=Hd c8;have a9:=Hd c9;rw[<-a7, <-a6];clear a6 a7 c7 c8 c9;refine ja5 [0,1,2,3,4,5,6,7,8,9,10,11,12,13,14,15,16,17,19,20,18,21,22] [18,22] Ext (jag (fun z=>W.heap.size<=z)) ExtR ExtT (fun x y z h k=>jag.trans h k) (fun x y h=>h.mono (fun _ _ h=>h.elim)) vY vY vY ?_;iterate 2 refine vD ?_
 refine qDV _ ((.pointer (some ⟨b,0,none⟩))) rfl (fun w1 _=>by kernel_rfl) ?_;refine vS ?_
 refine vD ?_
 refine qDL ⟨b,0,none⟩ _ rfl (fun w1 h1=>jaB (fun w=>by kernel_rfl) (jaF (jaa Q0.o J.o) (((jag.refl (fun z=>W.heap.size<=z) W2).drew).trans h1) (by exact b2.o))) ?_;refine vS ?_;iterate 3 refine vD ?_
 refine qDV _ ((.pointer (some ⟨b,0,none⟩))) rfl (fun w1 _=>by kernel_rfl) ?_;refine vS ?_
 refine vD ?_
 refine qDL ⟨b,0,none⟩ _ rfl (fun w1 h1=>jaB (fun w=>by kernel_rfl) (jaF (jaa Q0.o J.o) (((jag.refl (fun z=>W.heap.size<=z) W2).drew).trans h1) (by exact b2.o))) ?_;refine vS ?_;iterate 4 refine vD ?_
 refine qDV _ ((.pointer (some ⟨b,0,none⟩))) rfl (fun w1 _=>by kernel_rfl) ?_;refine vS ?_
 refine vD ?_
 refine qDL ⟨b,1,none⟩ _ rfl (fun w1 h1=>jaB (fun w=>by kernel_rfl) (jaF (jaa Q1.o J.o) (((jag.refl (fun z=>W.heap.size<=z) W2).drew).trans h1) (by exact b2.o))) ?_;refine vS ?_;refine qDV _ ((.pointer (some ⟨E,0,none⟩))) rfl (fun w1 _=>by kernel_rfl) ?_;refine vS ?_
 refine vD ?_
 refine qDH _ rfl (fun wb hb K hK=>?_);have kb:Ext W2 wb:=(jaq _).trans hb;have kw:Ext W wb:=J.o.trans kb;refine jbV (jaG (vX 199) vY) ((pj_c wb Dn (q.extract (m+1) q.size) n (.iface T x) ⟨HV.o.keeps kw _ _ _ (fun _ _ e=>e),fun z A=>bR (HD.o z A).2 kw.size⟩ a5.o.1 (by have:=a5.o.2.1;omega) (jbO _ _ _ a5.o.2.2 vO)).mono ?_);rintro e w3 ⟨v3,rfl,Z,O⟩
 refine⟨v3,rfl,hK _ _ (O.mono (fun _ _ e=>e.elim)) ?_⟩
 have HS:=Hd (bB kb (bB Z O));clear hK K hb kb Z O kw;refine vS ?_
 refine vD ?_
 refine qDH _ rfl (fun wc hc K hK=>?_)
 obtain⟨kb,Z,O⟩:=HS.o
 have b5:=Z.keeps hc _ _ _ (fun _ _ e=>e);have kc:Ext W2 wc:=(kb.trans O).trans hc
 obtain⟨T3,x3,rfl⟩:=b5.form (jdS a5.o.1)
 have a0:∀ z,Grow Dn wb w3 z->¬ z=E/\z < wc.heap.size:=fun z A=>by
  have h1:=a8.o.lt E rfl;have h2:=a9.o;have h3:=kb.size;have h4:=O.size;have h5:=hc.size;have h6:=J.o.size;rcases A with A | A
  ·have:=(HD.o z A).2;omega
  ·have:=A.1;have:=A.2;omega
 have hg:=(a8.o.keeps kc (fun _ _ e=>e)).give b4.o.1 b5 a0
 obtain⟨old,q7⟩:∃ v,wc.cell? ⟨E,1+jap (q.extract m q.size),none⟩=some v:=⟨_,(a8.o.keeps kc (fun _ _ e=>e)).blk.cellL (bA (by rw[jhf];have:=b4.o.1;omega))⟩
 have f7:wc.frozen? ⟨E,1+jap (q.extract m q.size),none⟩=false:=(a8.o.keeps kc (fun _ _ e=>e)).blk.frozen
 obtain⟨WW,a1⟩:=vE (wc.setCell ⟨E,1+jap (q.extract m q.size),none⟩ (.iface T3 x3))
 rw[<-a1]at hg;have Q:jag (fun z=>z=E) wc WW:=by rw[a1];exact jag.oneSet wc ⟨E,1+jap (q.extract m q.size),none⟩ (.iface T3 x3)
 have HG:=Hd (bB hg (bB Q (bB kc (bB a0 (show ∀ z,Grow Dn wb w3 z->D z\/W.heap.size<=z from fun z A=>A.elim (fun e=>.inl (HD.o z e).1) (fun e=>.inr (bH (bH J.o.size kb.size) e.1)))))));rw[b4.o.2]at q7 f7 a1;clear kb Z O b5 kc a0 hg hc;go_simp;rw[<-a1];refine hK _ _ (Q.mono (fun z _ e=>by have e:z=E:=e;rw[e];exact a9.o)) ?_;clear hK K q7 f7 a1 Q;refine jcA vY (fun wd hd=>?_)
 obtain⟨hg,Q,kc,a0,d0⟩:=HG.o
 have d1:=hg.keeps hd (fun _ _ e=>e);have HX:=Hd (bB d1 (show Ext W wd from((J.o.trans kc).trans' Q (fun z A e=>by have e:z=E:=e;have:=a9.o;omega)).trans hd));have HY:Hid (∀ z,(z=E\/Grow Dn wb w3 z)->D z\/W.heap.size<=z):=(fun z A=>A.elim (fun e=>.inr (by rw[e];exact a9.o)) (d0 z));clear hg Q kc a0 d0 d1 hd;go_wp2_with fail
 refine (jkC wd _ ⟨#[]⟩ _ E HX.o.1.pa (p.extract m p.size) u c0.o.1 c0.o.2 d5.o).mono ?_;rintro e w4 ⟨rfl,d2,b6⟩;have d3:=AddP.br d2 b6 HX.o.1.lt;have a4:jag D W w4:=(HX.o.2.mono (fun _ _ e=>e.elim)).trans' b6 (fun z A e=>by
  rcases HY.o z e with h | h
  ·exact h
  ·omega)
 have b0:=Hd (bB d3 a4);clear d2 b6 d3 a4;unfold brV;go_wp2_with fail
 refine (pj_c w4 _ (p.extract 0 m) _ (brV E) b0.o.1 c6.o.2 (by have:=d6.o;omega) (jbO _ _ _ c6.o.1 vO)).mono ?_;rintro e w5 ⟨v5,rfl,b1,a2⟩;have HZ:=Hd (bB b1 a2);clear b1 a2;go_wp2_with fail
 go_ret
 obtain⟨b1,a2⟩:=HZ.o
 refine PaTo.mk1 (b1.mono (fun z A=>?_)) (b0.o.2.trans (a2.mono (fun _ _ e=>e.elim)));have b7:=jeW b0.o.1.lt a2 z A;rcases A with (A | A) | A
 ·rcases HY.o z A with h | h
  ·exact .inl h
  ·exact .inr ⟨h,b7⟩
 ·exact .inr ⟨bH HX.o.2.size A.1,b7⟩
 ·exact .inr ⟨bH b0.o.2.size A.1,b7⟩
end
def VaP:PA->Prop
 | .nil=>True
 | .no=>True
 | .leaf q _=>jaC q=true
 | .ext q n=>jaC q=true/\VaP n
 | .br _ ks=>∀ i,VaP (ks i)
theorem jhJ{a:vB}{P:PA}(ha:jaC a=true)(h:VaP P):VaP (jbX a P):=by
 unfold jbX
 by_cases h0:a.size=0
 ·rw[if_pos h0];exact h
 rw[if_neg h0];cases P with
 | nil=>trivial
 | no=>trivial
 | leaf q v=>exact jg4 ha h
 | ext q n=>exact⟨jg4 ha h.1,h.2⟩
 | br v ks=>exact⟨ha,h⟩
theorem jqg{u:vB}{ks:Nat->PA}(v:vB)(h:VaP (.br v ks)){i:Nat}{P:PA}(hP:VaP P):VaP (.br u (setK ks i P)):=by
 intro j;show VaP (setK ks i P j)
 by_cases e:j=i
 ·rw[e,jbz];exact hP
 ·rw[jcS _ _ e];exact h j
theorem jqd{v:vB}{ks:Nat->PA}(h:VaP (.br v ks)){p:vB}(hp:jaC p=true)(u:vB):VaP (addK (.br v ks) p u):=by
 rw[jce];split
 ·exact h
 ·exact jqg v h (jch hp)
theorem jqf(v:vB):VaP (.br v fun _=>.nil):=fun _=>trivial
theorem jux:∀ (P:PA) (p u:vB),VaP P->jaC p=true->VaP (putP P p u)
 | .nil,p,u,_,hp=>hp
 | .no,p,u,_,hp=>hp
 | .leaf q v,p,u,h,hp=>by
  have h:jaC q=true:=h;unfold putP;split
  ·exact hp
  ·refine jhJ (jeL hp _) ?_
   have e:=jqd (jqf ⟨#[]⟩) (jaW h (jam q p) q.size) v;rw[jce]at e ⊢
   by_cases h0:(q.extract (jam q p) q.size).size=0
   ·rw[if_pos h0]at e ⊢;exact jqd e (jaW hp _ _) u
   ·rw[if_neg h0]at e ⊢;exact jqd e (jaW hp _ _) u
 | .ext q x,p,u,h,hp=>by
  unfold putP;split
  ·exact jhJ h.1 (jux x _ u h.2 (jaW hp _ _))
  ·exact jhJ (jeL hp _) (jqd (jqg ⟨#[]⟩ (jqf _) (jhJ (jaW h.1 _ _) h.2)) (jaW hp _ _) u)
 | .br v ks,p,u,h,hp=>by
  unfold putP;split
  ·exact h
  ·exact jqg v h (jux (ks (jap p)) _ u (h _) (jch hp))
theorem jqe{v:vB}{ks:Nat->PA}(h:VaP (.br v ks)):VaP (jcF v ks):=by
 have z:∀ i∈idxK ks,i < 16:=fun i o=>dR.1 (cN.1 o).1;unfold jcF;cases e:idxK ks with
 | nil =>
  show VaP (if v.size=0 then PA.no else .leaf ⟨#[]⟩ v);split
  ·trivial
  ·rfl
 | cons i r =>
  cases r with
  | nil =>
   show VaP (if v.size=0 then jbX ⟨#[UInt8.ofNat i]⟩ (ks i)else .br v ks);split
   ·refine jhJ ?_ (h i)
    have o:=z i (by rw[e];exact bD);rw[jcn];intro x q;have q:x=UInt8.ofNat i:=by simpa using q
    rw[q,jfQ o];exact o
   ·exact h
  | cons j r=>exact h
theorem joH:∀ (P:PA) (p:vB),VaP P->VaP (jbn P p)
 | .nil,_,_=>trivial
 | .no,_,_=>trivial
 | .leaf q v,p,h=>by
  unfold jbn;split
  ·trivial
  ·exact h
 | .ext q x,p,h=>by
  unfold jbn;split
  ·exact jhJ h.1 (joH x _ h.2)
  ·exact h
 | .br v ks,p,h=>by
  unfold jbn;split
  ·exact jqe (v:=⟨#[]⟩) h
  ·split
   ·exact h
   ·refine jqe (jqg v h ?_)
    have:=joH (ks (jap p)) (jbq p) (h _)
    unfold unNo;split
    ·trivial
    ·exact this
theorem jr9:∀ (P:PA),CanP P->VaP P
 | .nil,h=>h.elim
 | .no,h=>h.elim
 | .leaf q v,h=>h.1
 | .ext q n,h=>⟨h.2.1,jr9 n h.2.2.2⟩
 | .br v ks,h=>fun i=>by
  cases hn:(ks i).isNil with
  | true=>rw[jbw hn];trivial
  | false=>exact jr9 (ks i) (h.2.1 i hn)
theorem jlh:∀ (P:PA),VaP P->PutC P
 | .nil,_=>fun W T x D p u h _ _ _=>by cases h.at'
 | .no,_=>fun W T x D p u h _ _ _=>by
  have e:Value.iface T x=noV:=h.at';unfold noV at e;injection e with e1 e2;subst e1 e2;exact jtF W D p u
 | .leaf q v,hv=>fun W T x D p u h E H o=>by
  obtain⟨b,e,h1,J⟩:=h.at'
  unfold jju at e;injection e with e1 e2;subst e1 e2
  by_cases hpq:p=q
  ·subst hpq
   show Calls _ _ _ W (PaTo D W (putP (.leaf p v) p u));unfold putP;rw[if_pos rfl];exact jtb W D p v u b J
  ·exact jq7 W D q v p u b J hpq hv H o E
 | .ext q n,hv=>fun W T x D p u h E H o=>by
  obtain⟨b,Z,x',O,e,h1,J,Q,h4,h5⟩:=h.at'
  unfold extV at e;injection e with e1 e2;subst e1 e2;have A:n.isNil=false:=by
   cases n with
   | nil=>cases Q
   | _=>rfl
  have K:∀ z,O z->D z/\z < W.heap.size:=fun z hz=>⟨h5 z hz,h.lt z (h5 z hz)⟩
  by_cases hf:jam q p=q.size
  ·have:=jyh W D q n Z x' O b J Q h4 K p u hv.1 H o.1 E (jbO _ _ _ o.2 vO) (jlh n hv.2) A hf
   show Calls _ _ _ W (PaTo D W (putP (.ext q n) p u));unfold putP;rw[if_pos hf,hf];exact this
  ·have:=jvv W D q n Z x' O b J Q h4 K p u hv.1 H o.1 E o.2 A hf
   show Calls _ _ _ W (PaTo D W (putP (.ext q n) p u));unfold putP;rw[if_neg hf];exact this
 | .br v ks,hv=>fun W T x D p u h E H o=>by
  obtain⟨b,vk,Dk,e,_⟩:=h.at'
  have e0:=e;unfold brV at e;injection e with e1 e2;subst e1 e2;show Calls _ _ _ W (PaTo D W (putP (.br v ks) p u));unfold putP
  by_cases h0:p.size=0
  ·rw[if_pos h0,ja1 h0]
   exact (joS W D v u ks b h).mono fun e w' h=>h.2
  ·rw[if_neg h0]
   cases hk:(ks (jap p)).isNil with
   | true =>
    rw[jbw hk];exact (joR W D v u ks b h p h0 H E hk).mono fun e w' h=>h.2
   | false =>
    have X:=o (jap p) hk;exact (jvb W D v u ks b h p h0 H E hk (jbO _ _ _ X.2 vO) (jlh (ks (jap p)) (hv _))).mono fun e w' h=>h.2
def malE:vV:=.iface 28 (.int .i64 2)
def Fa1(W0 W:vW)(v:vV):Prop:=∃ (b:Nat) (k:Int),v=.iface 242 (.pointer (some ⟨b,0,none⟩))/\Blk W b (.cells #[.int .i64 k,malE] 244)/\W0.heap.size<=b
def MalP(w:vW)(e:Ending)(w':vW):Prop:=∃ v,e=.returned v/\Ext w w'/\Fa1 w w' v
theorem jca(w:vW)(k:Int):vQ 144 #[.int .i64 k] w (MalP w):=by
 go_enter Tryz.func144,Tryz.ntmps144;go_wp2_with fail
 go_ret
 exact⟨_,rfl,(ExtR w).alloc _,_,k,rfl,Blk.new w _,bL _⟩
def jBl(w:vW)(e:Ending)(w':vW):Prop:=∃ v,e=.returned (.tuple #[.int .i64 0,v])/\Ext w w'/\Fa1 w w' v
def jxJ(s:vB)(to:Nat)(w:vW)(n i:vV)(wr:vW):Prop:=∃ k:Nat,1<=k/\k<=to/\i=.int .i64 k/\n=.int .i64 (beN ((s.data.toList.take k).drop 1))/\beN ((s.data.toList.take k).drop 1)<=1048576/\wr=w
theorem jmJ(w:vW)(s:vB)(to:Nat)(hs:s.size<=1000000000)(h2:2<=to)(h9:to<=1000)(h:lenB s to=none):vQ 145 #[.string s,.int .i64 to] w (jBl w):=by
 by_cases hto:s.size < to
 ·have c0:(s.size:Int) < (to:Int):=vO
  clear h;go_enter Tryz.func145,Tryz.ntmps145;go_wp2_with fail
  refine (jca w s.size).mono ?_;rintro e w1 ⟨v,rfl,q,E⟩
  obtain⟨b,k,rfl,z⟩:=E
  have A:=Hd (bB q z);clear q z;go_wp2_with fail
  go_ret2
  exact⟨_,rfl,A.o.1,b,k,rfl,A.o.2⟩
 have c0:¬(s.size:Int) < (to:Int):=vO
 have c1:(1:Int) < (s.size:Int):=vO
 by_cases hz:(s[1]'(by omega)).toNat=0
 ·have a1:(((s[1]'(by omega)).toNat:Int) == 0)=true:=by simp[hz]
  clear h;go_enter Tryz.func145,Tryz.ntmps145;go_wp2_with fail
  refine (jca w 1).mono ?_;rintro e w1 ⟨v,rfl,q,E⟩
  obtain⟨b,k,rfl,z⟩:=E
  have A:=Hd (bB q z);clear q z;go_wp2_with fail
  go_ret2
  exact⟨_,rfl,A.o.1,b,k,rfl,A.o.2⟩
 have a1:(((s[1]'(by omega)).toNat:Int) == 0)=false:=by simpa using hz
 have HH:=Hd (show ¬(55 < beN ((s.data.toList.take to).drop 1)/\beN ((s.data.toList.take to).drop 1)<=1048576)from fun hc=>by
  unfold lenB at h;rw[if_neg ?_,if_pos hc]at h
  ·cases h
  ·rintro (O | O)
   ·exact hto O
   ·rw[bE,bA (by simp;omega)]at O
    have O:(s[1]'(by omega))=0:=O;exact hz (by rw[O];rfl))
 clear h hz;go_enter Tryz.func145,Tryz.ntmps145;go_wp2_with fail
 go_loopw [6,7] (fun m i wr=>jxJ s to w m i wr) (fun _ i _=>to - (intOf i).toNat)
 case atStart=>exact⟨1,bL _,by omega,rfl,by simp[beN],by simp[beN],rfl⟩
 case round =>
  obtain⟨k,a2,a5,rfl,rfl,H,rfl⟩:=hrel
  by_cases hlt:k < to
  ·have a3:k < s.size:=vO
   have c2:(k:Int) < (s.size:Int):=vO
   have c3:(k:Int) < (to:Int):=vO
   have Q:=jf7 s a2 a3
   obtain⟨m,J⟩:=vE (beN ((s.data.toList.take k).drop 1))
   rw[<-J]at H;have X:=jtG m s[k] H;have Z:bits BinOp.or .i64 ((m:Int) * 256) (wrap64 (s[k].toNat:Int))=((m * 256+s[k].toNat:Nat):Int):=by
    have hb:=s[k].toNat_lt;rw[<-X];congr 1;unfold wrap64;omega
   clear X;have e5:beN ((s.data.toList.take (k+1)).drop 1)=m * 256+s[k].toNat:=by rw[Q,jkA, <-J]
   have H5:=Hd e5;rw[<-J];clear J Q e5
   obtain⟨m',K⟩:∃ m',m'=m * 256+s[k].toNat:=⟨_,rfl⟩
   rw[<-K]at Z;have a0:=Hd K;clear K
   by_cases hbig:1048576 < m'
   ·have c4:(1048576:Int) < (m':Int):=vO
    go_wp2_with fail
    refine (jca wr k).mono ?_;rintro e w1 ⟨v,rfl,q,E⟩
    obtain⟨b,kk,rfl,z⟩:=E
    have A:=Hd (bB q z);clear q z;go_wp2_with fail
    go_ret2
    exact⟨_,rfl,A.o.1,b,kk,rfl,A.o.2⟩
   ·have c4:¬(1048576:Int) < (m':Int):=vO
    go_wp2_with fail
    go_roundw
    case rel=>exact⟨k+1,by omega,by omega,by go_num,by rw[H5.o,a0.o],by rw[H5.o, <-a0.o];omega,rfl⟩
    case measure=>exact vJ
  ·have a4:k=to:=vO
   subst a4;have c3:¬(k:Int) < (k:Int):=vO
   obtain⟨m,J⟩:=vE (beN ((s.data.toList.take k).drop 1))
   have hh:=HH.o;rw[<-J]at H hh ⊢;have c4:¬(55:Int) < (m:Int):=vO
   clear J hh;go_wp2_with fail
   refine (jca wr 1).mono ?_;rintro e w1 ⟨v,rfl,q,E⟩
   obtain⟨b,kk,rfl,z⟩:=E
   have A:=Hd (bB q z);clear q z;go_wp2_with fail
   go_ret2
   exact⟨_,rfl,A.o.1,b,kk,rfl,A.o.2⟩
end Go.Proofs.YtepbencaoiompaaGreatDoor
