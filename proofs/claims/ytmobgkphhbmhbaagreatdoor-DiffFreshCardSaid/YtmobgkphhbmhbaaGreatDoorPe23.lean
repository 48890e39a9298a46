/- Lemmas; each is under no condition but those that it states. -/
import Derived.Test.YtmobgkphhbmhbaaGreatDoorPe22
import Derived.Stop.Asserts
namespace Go.Proofs.YtmobgkphhbmhbaaGreatDoor
set_option linter.unusedSimpArgs false
set_option linter.unusedVariables false
set_option maxRecDepth 100000
set_option maxHeartbeats 16000000
open Go Go.RowKit
def jce(P:PA)(d:Chg):PA:=if d.gone then jbO P (jbA d.key)else putP P (jbA d.key) d.value
def jlu(q:vN)(o:Option vB)(c:Chg):Option vB:=if q=(jbA c.key).data.toList then c.o else o
theorem jsL{P:PA}(hP:P=.no\/CanP P){c:Chg}(hc:c.bad=false):(jce P c=.no\/CanP (jce P c))/\∀ q,getL (jce P c) q=jlu q (getL P q) c:=by
 have z:=jei c.key;unfold jce jlu Chg.o;cases hg:c.gone with
 | true =>
  rw[if_pos rfl,if_pos rfl];rcases hP with rfl | hP
  ·refine⟨.inl rfl,fun q=>?_⟩
   show none=if q=_ then none else none
   split <;> rfl
  ·exact jmH P hP _ z
 | false =>
  rw[if_neg ff,if_neg ff];have E:c.value.size≠0:=by
   unfold Chg.bad at hc;rw[hg]at hc;simp only[Bool.false_and,Bool.or_false,Bool.not_false,Bool.true_and,gP,Bool.not_eq_false']at hc;have H:=hc.2;unfold jdl at H
   have:=of_decide_eq_true H;omega
  have e:CanP P\/P=.no\/P=.nil:=by
   rcases hP with h | h
   ·exact .inr (.inl h)
   ·exact .inl h
  exact⟨.inr (jmB P e _ _ z E),jmO P e _ _ E⟩
theorem jq5:∀ (cs:List Chg) (P:PA),(P=.no\/CanP P)->cs.any Chg.bad=false->(cs.foldl jce P=.no\/CanP (cs.foldl jce P))/\∀ q,getL (cs.foldl jce P) q=cs.foldl (jlu q) (getL P q)
 | [],P,hP,_=>⟨hP,fun _=>rfl⟩
 | c :: cs,P,hP,hb=>by
  rw[List.any_cons,gP]at hb
  obtain⟨e,o⟩:=jsL hP hb.1
  obtain⟨z,E⟩:=jq5 cs _ e hb.2
  refine⟨z,fun q=>?_⟩
  rw[dZ,E,o,dZ]
theorem jsg{a b:vB}(h:jbA a=jbA b):a=b:=by rw[<-jfv a,h,jfv]
theorem jpv(k:vB):jlu (jbA k).data.toList=jlt k.data.toList:=by
 funext o c
 unfold jlu jlt Chg.o
 by_cases e:k.data.toList=c.key.data.toList
 ·rw[if_pos e,if_pos (by rw[jbK e])]
 ·rw[if_neg e,if_neg (fun h=>e (by rw[jsg (jbK h)]))]
theorem jjl{q:vN}(h:∀ k,q≠(jbA k).data.toList)(o:Option vB):∀ cs:List Chg,cs.foldl (jlu q) o=o
 | []=>rfl
 | c :: cs=>by
  have e:jlu q o c=o:=by unfold jlu;rw[if_neg (h c.key)]
  rw[dZ,e,jjl h o cs]
theorem jkB(k:vB):∀ l:vL,valL l k=look l k.data.toList
 | []=>rfl
 | q :: r=>by
  rw[jbc];show (if q.1=k then some q.2 else valL r k)=_
  by_cases e:q.1=k
  ·rw[if_pos e,if_pos (by rw[<-e])]
  ·rw[if_neg e,if_neg (fun h=>e (jbK h.symm)),jkB k r]
theorem jop{l:vL}(h:jaq 12 l):ja0 13 l=.no\/CanP (ja0 13 l):=by
 by_cases h0:l.length=0
 ·exact .inl (jbQ _ h0)
 ·exact .inr (joo 12 l h (fun e=>h0 (by rw[e];rfl))).1
theorem jtS{l m:vL}(hl:jat l=0)(hm:jat m=0){cs:List Chg}(h:jkM l m cs):cs.foldl jce (ja0 13 (jaR l))=ja0 13 (jaR m):=by
 have o:=jbt (jaw hl);have E:=jbt (jaw hm)
 obtain⟨H,J⟩:=jq5 cs _ (jop o) h.fine
 refine jse E H fun p K=>?_;rw[J,jkl 12 _ o p K]
 by_cases hk:∃ k,p=jbA k
 ·obtain⟨k,rfl⟩:=hk
  rw[jpv,joN,joN,jkB,jkB];exact h.looks k.data.toList
 ·have O:∀ k,p.data.toList≠(jbA k).data.toList:=fun k e=>hk ⟨k,jbK e⟩
  have z:∀ r:vL,valL (jaR r) p=none:=fun r=>jgD fun q Q e=>by
   obtain⟨x,_,rfl⟩:=bC.1 Q
   exact hk ⟨x.1,e.symm⟩
  rw[jjl O,z,z]
def Dp:PA->Nat->Prop
 | .nil,_=>True
 | .no,_=>True
 | .leaf q _,n=>q.size<=n
 | .ext q m,n=>q.size<=n/\Dp m (n - q.size)
 | .br _ ks,n=>∀ i,(ks i).isNil=false->1<=n/\Dp (ks i) (n - 1)
theorem jb7:∀ (P:PA) (n m:Nat),Dp P n->n<=m->Dp P m
 | .nil,_,_,_,_=>trivial
 | .no,_,_,_,_=>trivial
 | .leaf q _,n,m,h,k=>bL (show q.size<=n from h) k
 | .ext q x,n,m,h,k=>⟨bL h.1 k,jb7 x _ _ h.2 vO⟩
 | .br _ ks,n,m,h,k=>fun i e=>⟨bL (h i e).1 k,jb7 (ks i) _ _ (h i e).2 vO⟩
theorem jfS{a:vB}{P:PA}{n:Nat}(h:Dp P (n - a.size))(ha:a.size<=n):Dp (jb8 a P) n:=by
 unfold jb8
 by_cases h0:a.size=0
 ·rw[if_pos h0];exact jb7 P _ _ h vO
 rw[if_neg h0];cases P with
 | nil=>trivial
 | no=>trivial
 | leaf q v =>
  have h:q.size<=n - a.size:=h;show (a++q).size<=n;rw[jc1];omega
 | ext q m =>
  have e:=h.1
  refine⟨by rw[jc1];omega,?_⟩
  rw[jc1];exact jb7 m _ _ h.2 vO
 | br v ks=>exact⟨ha,h⟩
theorem jh6{v:vB}{ks:Nat->PA}{n:Nat}(h:Dp (.br v ks) n){i:Nat}{P:PA}(h1:1<=n)(hP:Dp P (n - 1))(u:vB):Dp (.br u (setK ks i P)) n:=by
 intro j o
 by_cases e:j=i
 ·rw[e,jcc];exact⟨h1,hP⟩
 ·rw[jeG _ _ e]at o ⊢;exact h j o
theorem jh4{v:vB}{ks:Nat->PA}{n:Nat}(h:Dp (.br v ks) n){p:vB}(hp:p.size<=n)(u:vB):Dp (addK (.br v ks) p u) n:=by
 rw[jcI]
 by_cases h0:p.size=0
 ·rw[if_pos h0];exact h
 ·rw[if_neg h0]
  refine jh6 h vO ?_ v;show (jbs p).size<=n - 1;unfold jbs;rw[jaZ];omega
theorem jhy(v:vB)(n:Nat):Dp (.br v fun _=>.nil) n:=fun i e=>by cases e
theorem jeR(a b:vB):jap a b<=a.size/\jap a b<=b.size:=by
 have:=ja7 a.data.toList b.data.toList
 unfold jap;rw[<-jaO, <-jaO];exact this.2
theorem jnI:∀ (P:PA) (n:Nat) (p u:vB),Dp P n->p.size<=n->Dp (putP P p u) n
 | .nil,_,p,u,_,hp=>hp
 | .no,_,p,u,_,hp=>hp
 | .leaf q v,n,p,u,h,hp=>by
  have h:q.size<=n:=h
  obtain⟨E,H⟩:=jeR q p
  unfold putP
  by_cases e:p=q
  ·rw[if_pos e];exact hp
  rw[if_neg e];have z:(p.extract 0 (jap q p)).size=jap q p:=by rw[dC];omega
  refine jfS ?_ vO;rw[z];have o:=jh4 (jhy ⟨#[]⟩ (n - jap q p)) (p:=q.extract (jap q p) q.size) (by rw[jaZ];omega) v;rw[jcI]at o ⊢
  by_cases h0:(q.extract (jap q p) q.size).size=0
  ·rw[if_pos h0]at o ⊢
   exact jh4 o (by rw[jaZ];omega) u
  ·rw[if_neg h0]at o ⊢
   exact jh4 o (by rw[jaZ];omega) u
 | .ext q x,n,p,u,h,hp=>by
  obtain⟨E,H⟩:=jeR q p
  unfold putP
  by_cases e:jap q p=q.size
  ·rw[if_pos e]
   refine jfS (jnI x _ _ u h.2 ?_) h.1;rw[jaZ];omega
  ·rw[if_neg e]
   have z:(p.extract 0 (jap q p)).size=jap q p:=by rw[dC];omega
   refine jfS ?_ vO;rw[z];have J:=h.1;refine jh4 (jh6 (jhy ⟨#[]⟩ _) vO (jfS ?_ ?_) _) (by rw[jaZ];omega) u
   ·rw[jaZ]
    exact jb7 x _ _ h.2 vO
   ·rw[jaZ];omega
 | .br v ks,n,p,u,h,hp=>by
  unfold putP
  by_cases h0:p.size=0
  ·rw[if_pos h0];exact h
  ·rw[if_neg h0]
   refine jh6 h vO (jnI (ks (jao p)) (n - 1) _ u ?_ ?_) v
   ·cases hn:(ks (jao p)).isNil with
    | true=>rw[jbu hn];trivial
    | false=>exact (h _ hn).2
   ·unfold jbs;rw[jaZ];omega
theorem jnH{v:vB}{ks:Nat->PA}{n:Nat}(h:Dp (.br v ks) n):Dp (jdm v ks) n:=by
 have o:∀ i∈idxK ks,(ks i).isNil=false:=fun i q=>by
  have:=(cH.1 q).2
  simpa using this
 unfold jdm;cases e:idxK ks with
 | nil =>
  show Dp (if v.size=0 then PA.no else .leaf ⟨#[]⟩ v) n
  by_cases h0:v.size=0
  ·rw[if_pos h0];trivial
  ·rw[if_neg h0];exact cC n
 | cons i r =>
  cases r with
  | nil =>
   show Dp (if v.size=0 then jb8 ⟨#[UInt8.ofNat i]⟩ (ks i)else .br v ks) n
   by_cases h0:v.size=0
   ·rw[if_pos h0]
    obtain⟨z,E⟩:=h i (o i (by rw[e];exact bF))
    exact jfS E z
   ·rw[if_neg h0];exact h
  | cons j r=>exact h
theorem jh5:∀ (P:PA) (n:Nat) (p:vB),Dp P n->Dp (jbO P p) n
 | .nil,_,_,_=>trivial
 | .no,_,_,_=>trivial
 | .leaf q v,n,p,h=>by
  unfold jbO
  by_cases e:p=q
  ·rw[if_pos e];trivial
  ·rw[if_neg e];exact h
 | .ext q x,n,p,h=>by
  unfold jbO;cases preB q p with
  | false=>rw[if_neg ff];exact h
  | true=>rw[if_pos rfl];exact jfS (jh5 x _ _ h.2) h.1
 | .br v ks,n,p,h=>by
  unfold jbO
  by_cases h0:p.size=0
  ·rw[if_pos h0];exact jnH h
  ·rw[if_neg h0]
   cases hn:(ks (jao p)).isNil with
   | true=>rw[if_pos rfl];exact h
   | false =>
    rw[if_neg ff]
    obtain⟨o,z⟩:=h _ hn
    refine jnH (jh6 h o ?_ v)
    have:=jh5 (ks (jao p)) (n - 1) (jbs p) z
    unfold unNo;cases (jbO (ks (jao p)) (jbs p)).isNo with
    | true=>rw[if_pos rfl];trivial
    | false=>rw[if_neg ff];exact this
theorem jsb:∀ (f:Nat) (l:vL) (k:Nat),jaq f l->jaq k l->Dp (ja0 (f+1) l) k:=by
 intro f;have E:∀ (f:Nat) (l:vL) (k:Nat),jaq k l->l.length=1->Dp (ja0 (f+1) l) k:=by
  intro f l k h J;rw[jbT _ J];exact (h.size _ (jdq (l:=l) vO)).1
 induction f with
 | zero =>
  intro l k h K;have hl:=jbv h
  by_cases h0:l.length=0
  ·rw[jbQ _ h0];trivial
  ·exact E 0 l k K vO
 | succ f ih =>
  intro l k h z
  by_cases h0:l.length=0
  ·rw[jbQ _ h0];trivial
  by_cases J:l.length=1
  ·exact E _ l k z J
  have H:2<=l.length:=vO
  by_cases K:0 < comK l
  ·have X:=jdq (l:=l) vO
   have Z:=jdb h H;have o:=jbq h H;have a0:=(o _ X).2;have a1:=(z.size _ X).1;rw[jdt _ H K]
   refine⟨by rw[Z];omega,?_⟩
   rw[Z];exact ih _ _ (jd0 h H K).1 (jci (comK l) z (fun p O q hq=>(o p O).1.trans (o q hq).1.symm) (fun p O=>(o p O).2))
  ·rw[jeB _ H K]
   intro i Q;have Q:(if (cutL i l).length=0 then PA.nil else ja0 (f+1) (jag 1 (cutL i l))).isNil=false:=Q;show 1<=k/\Dp (if (cutL i l).length=0 then PA.nil else ja0 (f+1) (jag 1 (cutL i l))) (k - 1)
   by_cases hc:(cutL i l).length=0
   ·rw[if_pos hc]at Q;cases Q
   ·rw[if_neg hc]
    refine⟨?_,ih _ _ (jeO h hc).1 (jdM i z)⟩
    cases e:cutL i l with
    | nil=>rw[e]at hc;exact (hc rfl).elim
    | cons p r =>
     obtain⟨O,a,t,J,H⟩:=jbp (show p∈cutL i l by rw[e];exact bF)
     have:=(z.size p O).1
     have h3:p.1.size=(a :: t).length:=by rw[<-jaO];exact congrArg List.length J
     rw[bQ]at h3;omega
section
attribute [local go_sem] Oper.semAt_some
def noV:vV:=.iface 244 (.agg #[])
def jiT(b:Nat):vV:=.iface 233 (.pointer (some ⟨b,0,none⟩))
def extV(b:Nat):vV:=.iface 236 (.pointer (some ⟨b,0,none⟩))
def brV(b:Nat):vV:=.iface 239 (.pointer (some ⟨b,0,none⟩))
def brC(u:vB)(vk:Nat->vV):List vV:=.string u ::(List.range 16).map vk
def PaAt:PA->vV->(Nat->Prop)->vW->Prop
 | .nil,v,_,_=>v=.nilIface
 | .no,v,_,_=>v=noV
 | .leaf q u,v,D,W=>∃ b,v=jiT b/\D b/\Blk W b (.cells #[.string q,.string u] 235)
 | .ext q n,v,D,W=>∃ b T x Dn,v=extV b/\D b/\Blk W b (.cells #[.string q,.iface T x] 238)/\PaAt n (.iface T x) Dn W/\¬ Dn b/\∀ x,Dn x->D x
 | .br u ks,v,D,W=>∃ (b:Nat) (vk:Nat->vV) (Dk:Nat->Nat->Prop),v=brV b/\D b/\Blk W b (.cells (brC u vk).toArray 242) /\
   (∀ i,i < 16->PaAt (ks i) (vk i) (Dk i) W/\¬ Dk i b/\∀ x,Dk i x->D x)/\∀ i j,i < 16->j < 16->i≠j->∀ x,Dk i x->¬ Dk j x
theorem PaAt.keeps{F:BSet}{W W':vW}(k:jad F W W'):∀ (P:PA) (v:vV) (D:Nat->Prop),PaAt P v D W->(∀ x,D x->¬ F x)->PaAt P v D W'
 | .nil,_,_,h,_=>h
 | .no,_,_,h,_=>h
 | .leaf _ _,_,_,⟨b,h1,h2,h3⟩,hF=>⟨b,h1,h2,h3.keeps k (hF b h2)⟩
 | .ext _ n,_,_,⟨b,T,x,Dn,h1,h2,h3,h4,h5,h6⟩,hF=>⟨b,T,x,Dn,h1,h2,h3.keeps k (hF b h2),PaAt.keeps k n (.iface T x) Dn h4 (fun x e=>hF x (h6 x e)),h5,h6⟩
 | .br _ ks,_,_,⟨b,vk,Dk,h1,h2,h3,h4,h5⟩,hF=>⟨b,vk,Dk,h1,h2,h3.keeps k (hF b h2),fun i o=>⟨PaAt.keeps k (ks i) (vk i) (Dk i) (h4 i o).1 (fun x e=>hF x ((h4 i o).2.2 x e)),(h4 i o).2⟩,h5⟩
theorem PaAt.mono{D D':Nat->Prop}{W:vW}(hD:∀ x,D x->D' x):∀ {P:PA} {v:vV},PaAt P v D W->PaAt P v D' W
 | .nil,_,h=>h
 | .no,_,h=>h
 | .leaf _ _,_,⟨b,h1,h2,h3⟩=>⟨b,h1,hD b h2,h3⟩
 | .ext _ n,_,⟨b,T,x,Dn,h1,h2,h3,h4,h5,h6⟩=>⟨b,T,x,Dn,h1,hD b h2,h3,h4,h5,fun x e=>hD x (h6 x e)⟩
 | .br _ ks,_,⟨b,vk,Dk,h1,h2,h3,h4,h5⟩=>⟨b,vk,Dk,h1,hD b h2,h3,fun i o=>⟨(h4 i o).1,(h4 i o).2.1,fun x e=>hD x ((h4 i o).2.2 x e)⟩,h5⟩
theorem PaAt.form{P:PA}{v:vV}{D:Nat->Prop}{W:vW}(h:PaAt P v D W)(hn:P.isNil=false):∃ T x,v=.iface T x:=by
 cases P with
 | nil=>cases hn
 | no=>exact⟨_,_,h⟩
 | leaf q u=>obtain⟨b,h,_⟩:=h;exact⟨_,_,h⟩
 | ext q n=>obtain⟨b,T,x,e,h,_⟩:=h;exact⟨_,_,h⟩
 | br u ks=>obtain⟨b,o,z,h,_⟩:=h;exact⟨_,_,h⟩
structure PaO(P:PA)(v:Value)(D:Nat->Prop)(W:World):Prop where
 at':PaAt P v D W
 lt:∀ x,D x->x < W.heap.size
theorem PaO.keeps{F:BSet}{W W':vW}{P:PA}{v:vV}{D:Nat->Prop}(h:PaO P v D W)(k:jad F W W')(hF:∀ x,D x->¬ F x):PaO P v D W':=
 ⟨h.at'.keeps k P v D hF,fun x e=>bP (h.lt x e) k.size⟩
theorem PaO.ext{W W':vW}{P:PA}{v:vV}{D:Nat->Prop}(h:PaO P v D W)(k:Ext W W'):PaO P v D W':=h.keeps k fun _ _ e=>e
def Grow(D:Nat->Prop)(W W':vW):Nat->Prop:=fun x=>D x\/(W.heap.size<=x/\x < W'.heap.size)
theorem jey{D:Nat->Prop}{W W':vW}{F:BSet}(h:∀ x,D x->x < W.heap.size)(k:jad F W W'):∀ x,Grow D W W' x->x < W'.heap.size
 | x,.inl hx=>bP (h x hx) k.size
 | x,.inr hx=>hx.2
def PaTo(D:Nat->Prop)(W:vW)(P:PA)(e:Ending)(w':vW):Prop:=∃ v,e=.returned v/\PaAt P v (Grow D W w') w'/\jad D W w'
theorem PaTo.own{D:Nat->Prop}{W:vW}{P:PA}{v:vV}{w':vW}(h:PaAt P v (Grow D W w') w')(k:jad D W w')(hl:∀ x,D x->x < W.heap.size):PaO P v (Grow D W w') w':=⟨h,jey hl k⟩
def PaEx(D:Nat->Prop)(W:vW)(P:PA)(e:Ending)(w':vW):Prop:=∃ v,e=.returned v/\PaAt P v (Grow D W w') w'/\Ext W w'
theorem jwm(b:Nat)(w:vW):(Instr.typeAssert (jiT b) 87 233 true).run Tryz.prog w=.ok (.tuple #[.pointer (some ⟨b,0,none⟩),.bool true]) w:=vY
theorem jmV(v:vV)(h:(∃ b,v=extV b)\/(∃ b,v=brV b)\/v=noV)(w:vW):(Instr.typeAssert v 87 233 true).run Tryz.prog w=.ok (.tuple #[.pointer none,.bool false]) w:=by
 rcases h with⟨b,rfl⟩ |⟨b,rfl⟩ | rfl <;> kernel_rfl
theorem jx8(b:Nat)(w:vW):(Instr.typeAssert (extV b) 87 236 true).run Tryz.prog w=.ok (.tuple #[.pointer (some ⟨b,0,none⟩),.bool true]) w:=vY
theorem jvc(v:vV)(h:(∃ b,v=brV b)\/v=noV)(w:vW):(Instr.typeAssert v 87 236 true).run Tryz.prog w=.ok (.tuple #[.pointer none,.bool false]) w:=by
 rcases h with⟨b,rfl⟩ | rfl <;> kernel_rfl
theorem jy8(b:Nat)(w:vW):(Instr.typeAssert (brV b) 87 239 true).run Tryz.prog w=.ok (.tuple #[.pointer (some ⟨b,0,none⟩),.bool true]) w:=vY
theorem jy9(w:vW):(Instr.typeAssert noV 87 239 true).run Tryz.prog w=.ok (.tuple #[.pointer none,.bool false]) w:=vY
end
section
section mixz
variable {P:Program} {l:List Oper} {E D:vW->vW->Prop}
def anyZ(P:Program)(ops:Array Oper)(z:Nat)(hd:List Nat)(E D:vW->vW->Prop)(Q:Act->vW->Prop):Nat->Array Bool->Act->vW->Prop
 | 0,listed,a,w=>listed.getD z true=true/\Region.ready .any ops listed=[]/\Q a w
 | fuel+1,listed,a,w=>∀ w1,(listed.getD z true=false->E w w1)->(listed.getD z true=true->w1=w) ->
  (Region.ready .any ops listed=[]->Q a w1) /\
  ∀ i∈Region.ready .any ops listed,wpOp P ops NoQ i (fun a' w'=>(listed.getD z true=false->i≠z->D w1 w'/\(i ∉ hd->E w1 w'))/\(listed.getD z true=true->w'=w1)/\anyZ P ops z hd E D Q fuel (listed.setIfInBounds i true) a' w') a w1
theorem jqi(hT:∀ x y z,E x y->E y z->E x z){ops:Array Oper}{z:Nat}{hd:List Nat}{Q:Act->vW->Prop}:∀ (fuel:Nat) (listed:Array Bool) (a:Act) (w w1:vW),listed.getD z true=false->anyZ P ops z hd E D Q fuel listed a w->E w w1->anyZ P ops z hd E D Q fuel listed a w1
 | 0,_,_,_,_,hz,h,_=>by have:=h.1;rw[hz]at this;cases this
 | _+1,_,_,_,_,hz,h,he=>fun o q H=>h o (fun e=>hT _ _ _ he (q e)) (fun e=>absurd e (by rw[hz];decide))
theorem jiX(hE:∀ w,E w w){ops:Array Oper}{z:Nat}{hd:List Nat}{Q:Act->vW->Prop}{Q':Exit->Act->vW->Prop}(hQ:∀ a w,Q a w->Q' .normal a w) :
  ∀ (fuel:Nat) (listed:Array Bool) (a:Act) (w:vW),anyZ P ops z hd E D Q fuel listed a w->wpAny P .any ops Q' fuel listed a w
 | 0,_,_,w,h=>⟨h.2.1,hQ _ _ h.2.2⟩
 | fuel+1,_,_,w,h=>let ⟨h1,h2⟩:=h w (fun _=>hE w) (fun _=>rfl)
  ⟨fun e=>hQ _ _ (h1 e),fun i o=>jhK (fun q w' ⟨_,_,H⟩=>jiX hE hQ fuel _ q w' H) (h2 i o)⟩
def jpj(ops:Array Oper)(z i:Nat):Bool:=match ops[z]? with | some o=>o.after.toList.any fun e=>Region.binds .any e && e.on == i | none=>false
theorem jtJ{ops:Array Oper}{z i:Nat}{listed:Array Bool}(he:jpj ops z i=true)(hi:i∈Region.ready .any ops listed):z ∉ Region.ready .any ops listed:=by
 intro O;unfold jpj at he
 obtain⟨Q,X,E,o⟩:=mem_ready.1 O
 rw[E]at he
 obtain⟨e,H,J⟩:=fN.1 he
 rw[cQ,beq_iff_eq]at J;have q:=o e (by simpa using H) J.1;have K:=(mem_ready.1 hi).1;rw[J.2]at q;rcases fK i listed.size with h' | h'
 ·simp[h']at K q;rw[K]at q;cases q
 ·simp[gJ h']at q
theorem jo4(hE:∀ w,E w w)(hT:∀ x y z,E x y->E y z->E x z)(hD:∀ x y z,D x y->D y z->D x z)(hED:∀ x y,E x y->D x y){ops:Array Oper}{z:Nat}{hd:List Nat}{Q:Act->vW->Prop}{i:Nat}{oi:Oper}{v:vV}(hiz:i≠z)(he0:jpj ops z i=true)(hi:ops[i]?=some oi)(hsel:∀ (j:Nat) (o:Oper) cs b,ops[j]?=some o->o.op≠.select cs b) :
  ∀ (J:Nat) (q:Array Bool) (a:Act) (w:vW),q.getD z true=false ->
   (∀ j oj,ops[j]?=some oj->j≠i->q.getD j true=false->(∀ e∈oj.after,Region.binds .any e=true->e.on≠i)->oi.apart ops oj=true) ->
   i∈Region.ready .any ops q->jcr P ops E D w oi v a ->
   anyZ P ops z hd E D Q J (q.setIfInBounds i true) (a.put oi.dst v) w->anyZ P ops z hd E D Q (J+1) q a w:=by
 intro J;induction J with
 | zero =>
  intro q a w hz _ hr hy H
  have:=H.1
  rw[getD_set_ne true hiz,hz]at this;cases this
 | succ J ih =>
  intro q a w hz K hr hy H w1 a8 _;have he:=a8 hz;have a0:(q.setIfInBounds i true).getD z true=false:=by rw[getD_set_ne true hiz,hz]
  refine⟨fun h=>(by rw[h]at hr;cases hr),fun j hj=>?_⟩
  by_cases hji:j=i
  ·subst hji
   exact hy.wpOp hi (hED _ _ he) hE (fun w' O=>⟨fun _ _=>⟨hED _ _ O,fun _=>O⟩,fun e=>absurd e (by rw[hz];decide),jqi hT _ _ _ _ _ a0 H (hT _ _ _ he O)⟩)
  ·have a6:j≠z:=fun e=>jtJ he0 hr (e ▸ hj)
   have O:=(H w1 (fun _=>he) (fun e=>by rw[a0]at e;cases e)).2 j (ready_mono hj hji)
   obtain⟨Z,oj,a3,a4⟩:=mem_ready.1 hj
   have a5:∀ e∈oj.after,Region.binds .any e=true->e.on≠i:=fun e he hb a9=>by
    have O:=a4 e he hb;have h0:=(mem_ready.1 hr).1;rw[a9]at O;rcases fK i q.size with h' | h'
    ·simp[h']at h0 O;rw[h0]at O;cases O
    ·simp[gJ h']at O
   have h2:=jfg (v:=v) (Y:=fun a'=>execOp a'.eval oi=execOp a.eval oi/\Region.wanted oi (yielded ops a'.tmps)=Region.wanted oi (yielded ops a.tmps)) a3 (K j oj a3 hji Z a5) (fun cs b=>hsel i oi cs b hi) (fun cs b=>hsel j oj cs b a3)
    (fun a1 a2 h e1 e2=>⟨e1.trans h.1,e2.trans h.2⟩) ⟨rfl,rfl⟩ O
   have X:∀ k ok,ops[k]?=some ok->k≠i->(q.setIfInBounds j true).getD k true=false ->
     (∀ e∈ok.after,Region.binds .any e=true->e.on≠i)->oi.apart ops ok=true:=fun k ok hk b0 a7 b1=>by
    refine K k ok hk b0 ?_ b1
    by_cases hjk:j=k
    ·subst hjk;exact Z
    ·rw[getD_set_ne true hjk]at a7;exact a7
   refine wpOp_mono (fun a' w' h3=>?_) h2
   obtain⟨⟨e1,e2⟩,h4,_,h5⟩:=h3
   have h4:=h4 a0 a6
   refine⟨fun _ _=>h4,fun e=>absurd e (by rw[hz];decide),?_⟩
   have b2:jcr P ops E D w' oi v a':=(hy.of_same e1 e2).st hD (hD _ _ _ (hED _ _ he) h4.1);refine ih (q.setIfInBounds j true) a' w' (by rw[getD_set_ne true a6,hz]) X (ready_mono hr (Ne.symm hji)) b2 ?_;rw[gV _ _ hji];exact h5
def jgI(P:Program)(ops:Array Oper)(o:Oper)(v:vV)(a:Act):Prop:=
 (Region.wanted o (yielded ops a.tmps)=true/\∀ w1,jm8 P (fun x y=>y=x) w1 v ((execOp a.eval o).run P w1))\/(Region.wanted o (yielded ops a.tmps)=false/\v=undef)
theorem jgI.wpOp{ops:Array Oper}{i:Nat}{o:Oper}{v:vV}{a:Act}(hi:ops[i]?=some o)(hy:jgI P ops o v a){K:Act->vW->Prop}{w1:vW}
  (h:K (a.put o.dst v) w1):wpOp P ops NoQ i K a w1:=by
 have q:jbL P ops (fun x y=>y=x) w1 o v a:=by
  rcases hy with⟨h1,h2⟩ | h1
  ·exact .inl ⟨h1,fun w1 _=>h2 w1⟩
  ·exact .inr h1
 exact q.wpOp hi (Eq.refl w1) (fun _=>rfl) (fun w' e=>by have e:w'=w1:=e;rw[e];exact h)
theorem jtb(hE:∀ w,E w w)(hT:∀ x y z,E x y->E y z->E x z)(hED:∀ x y,E x y->D x y){ops:Array Oper}{z:Nat}{hd:List Nat}{Q:Act->vW->Prop}{i:Nat}{oi:Oper}{v:vV}(hiz:i≠z)(hi:ops[i]?=some oi)(hsel:∀ (j:Nat) (o:Oper) cs b,ops[j]?=some o->o.op≠.select cs b) :
  ∀ (J:Nat) (q:Array Bool) (a:Act) (w:vW),
   (∀ j oj,ops[j]?=some oj->j≠i->q.getD j true=false->(∀ e∈oj.after,Region.binds .any e=true->e.on≠i)->oi.apart ops oj=true) ->
   i∈Region.ready .any ops q->jgI P ops oi v a ->
   anyZ P ops z hd E D Q J (q.setIfInBounds i true) (a.put oi.dst v) w->anyZ P ops z hd E D Q (J+1) q a w:=by
 intro J;have a3:∀ (J:Nat) (q:Array Bool) (a:Act) (w w1:vW),(q.getD z true=false->E w w1)->(q.getD z true=true->w1=w) ->
   anyZ P ops z hd E D Q J (q.setIfInBounds i true) (a.put oi.dst v) w->anyZ P ops z hd E D Q J (q.setIfInBounds i true) (a.put oi.dst v) w1:=by
  intro J q a w w1 O h2 H;cases hz:q.getD z true with
  | true=>rw[h2 hz];exact H
  | false=>exact jqi hT _ _ _ _ _ (by rw[getD_set_ne true hiz,hz]) H (O hz)
 induction J with
 | zero =>
  intro q a w K hr hy H w1 X Z;have hz:q.getD z true=true:=by have:=H.1;rwa [getD_set_ne true hiz]at this
  refine⟨fun h=>(by rw[h]at hr;cases hr),fun j hj=>?_⟩
  by_cases hji:j=i
  ·subst hji
   exact hy.wpOp hi ⟨fun _ _=>⟨hED _ _ (hE w1),fun _=>hE w1⟩,fun _=>rfl,a3 0 q a w w1 X Z H⟩
  ·have:=ready_mono hj hji
   rw[H.2.1]at this;cases this
 | succ J ih =>
  intro q a w K hr hy H w1 X Z
  refine⟨fun h=>(by rw[h]at hr;cases hr),fun j hj=>?_⟩
  by_cases hji:j=i
  ·subst hji
   exact hy.wpOp hi ⟨fun _ _=>⟨hED _ _ (hE w1),fun _=>hE w1⟩,fun _=>rfl,a3 _ q a w w1 X Z H⟩
  ·have a5:(q.setIfInBounds i true).getD z true=q.getD z true:=getD_set_ne true hiz
   have O:=(H w1 (fun e=>X (a5 ▸ e)) (fun e=>Z (a5 ▸ e))).2 j (ready_mono hj hji)
   obtain⟨a4,oj,a6,a7⟩:=mem_ready.1 hj
   have a8:∀ e∈oj.after,Region.binds .any e=true->e.on≠i:=fun e he hb b1=>by
    have O:=a7 e he hb;have h0:=(mem_ready.1 hr).1;rw[b1]at O;rcases fK i q.size with h' | h'
    ·simp[h']at h0 O;rw[h0]at O;cases O
    ·simp[gJ h']at O
   have h2:=jfg (v:=v) (Y:=fun a'=>execOp a'.eval oi=execOp a.eval oi/\Region.wanted oi (yielded ops a'.tmps)=Region.wanted oi (yielded ops a.tmps)) a6 (K j oj a6 hji a4 a8) (fun cs b=>hsel i oi cs b hi) (fun cs b=>hsel j oj cs b a6)
    (fun a1 a2 h e1 e2=>⟨e1.trans h.1,e2.trans h.2⟩) ⟨rfl,rfl⟩ O
   have a0:∀ k ok,ops[k]?=some ok->k≠i->(q.setIfInBounds j true).getD k true=false ->
     (∀ e∈ok.after,Region.binds .any e=true->e.on≠i)->oi.apart ops ok=true:=fun k ok hk b2 a9 b3=>by
    refine K k ok hk b2 ?_ b3
    by_cases hjk:j=k
    ·subst hjk;exact a4
    ·rw[getD_set_ne true hjk]at a9;exact a9
   refine wpOp_mono (fun a' w' h3=>?_) h2
   obtain⟨⟨e1,e2⟩,h4,b0,h5⟩:=h3
   rw[a5]at h4 b0
   refine⟨h4,b0,?_⟩
   have b4:jgI P ops oi v a':=by unfold jgI at *;rw[e1,e2];exact hy
   refine ih (q.setIfInBounds j true) a' w' a0 (ready_mono hr (Ne.symm hji)) b4 ?_;rw[gV _ _ hji];exact h5
def MixZ(P:Program)(l:List Oper)(z:Nat)(hd:List Nat)(E D:vW->vW->Prop)(Q:Act->vW->Prop):List Nat->List Nat->Act->vW->Prop
 | [],done,a,w=>Region.ready .any l.toArray (jbd l done)=[z]/\(jbd l done).getD z true=false/\(jbd l (z :: done)).getD z true=true/\Region.ready .any l.toArray (jbd l (z :: done))=[]/\∀ w1,E w w1->wpOp P l.toArray NoQ z Q a w1
 | k :: ord,done,a,w=>(jbd l done).getD z true=false/\k≠z /\
  ((k∈Region.ready .any l.toArray (jbd l done)/\Region.free .any l.toArray (jbd l done) k=true/\∃ o v,l[k]?=some o/\((jpj l.toArray z k=true/\jcr P l.toArray E D w o v a)\/jgI P l.toArray o v a)/\MixZ P l z hd E D Q ord (k :: done) (a.put o.dst v) w) \/
  (Region.ready .any l.toArray (jbd l done)=[k]/\k∈hd/\∀ w1,E w w1->wpOp P l.toArray NoQ k (fun a' w'=>D w1 w'/\MixZ P l z hd E D Q ord (k :: done) a' w') a w1))
theorem jer(hE:∀ w,E w w)(hT:∀ x y z,E x y->E y z->E x z)(hD:∀ x y z,D x y->D y z->D x z)(hED:∀ x y,E x y->D x y)(hs:Region.noSelect l.toArray=true){z:Nat}{hd:List Nat}{Q:Act->vW->Prop}:∀ (ord:List Nat) (done:List Nat) (a:Act) (w:vW),
  MixZ P l z hd E D Q ord done a w->anyZ P l.toArray z hd E D Q (ord.length+1) (jbd l done) a w
 | [],done,a,w,⟨h1,hz,hz2,O,h3⟩=>fun w1 H _=>by
  refine⟨fun J=>(by rw[h1]at J;cases J),fun i K=>?_⟩
  rw[h1]at K;obtain rfl:i=z:=by simpa using K
  exact wpOp_mono (fun X w' h=>⟨fun _ e=>absurd rfl e,fun e=>absurd e (by rw[hz];decide),hz2,O,h⟩) (h3 w1 (H hz))
 | k :: ord,done,a,w,⟨hz,hkz,h⟩=>by
  rcases h with⟨hr,hf,o,v,ho,hy,h⟩ |⟨hr,hkd,h⟩
  ·have q:l.toArray[k]?=some o:=by simpa using ho
   rcases hy with⟨H,hy⟩ | hy
   ·exact jo4 hE hT hD hED hkz H q (iC hs) (ord.length+1) (jbd l done) a w hz (iM q hf) hr hy (jer hE hT hD hED hs ord _ _ _ h)
   ·exact jtb hE hT hED hkz q (iC hs) (ord.length+1) (jbd l done) a w (iM q hf) hr hy (jer hE hT hD hED hs ord _ _ _ h)
  ·intro w1 H _
   refine⟨fun J=>(by rw[hr]at J;cases J),fun i K=>?_⟩
   rw[hr]at K;obtain rfl:i=k:=by simpa using K
   exact wpOp_mono (fun X w' O=>⟨fun _ _=>⟨O.1,fun Z=>absurd hkd Z⟩,fun e=>absurd e (by rw[hz];decide),jer hE hT hD hED hs ord _ _ _ O.2⟩) (h w1 (H hz))
theorem jc7(ord:List Nat)(z:Nat)(hd:List Nat)(E D:vW->vW->Prop)(hE:∀ w,E w w)(hT:∀ x y z,E x y->E y z->E x z)(hD:∀ x y z,D x y->D y z->D x z)(hED:∀ x y,E x y->D x y){id:Nat}{Q:Exit->Act->vW->Prop}{a:Act}{w:vW}
  (hm:P.follows .mixedOrders=true) (hs:Region.noSelect l.toArray=true) (hl:ord.length+1=l.toArray.size)
  (h:MixZ P l z hd E D (fun a w=>Q .normal a w) ord [] a w.drew):(Code.region id l.toArray true).wp P Q a w:=by
 refine wp_region_any hm ?_;rw[<-hl]
 have:=jer hE hT hD hED hs ord _ _ _ h
 unfold jbd at this;rw[hl]at this ⊢;exact jiX hE (fun _ _ h=>h) _ _ _ _ this
variable {Q:Act->vW->Prop} {ord done hd:List Nat} {a:Act} {w:vW} {k z:Nat} {o:Oper}
def jpr(l:List Oper)(z:Nat)(done:List Nat)(k:Nat):Bool:=(Region.ready .any l.toArray (jbd l done)).contains k && Region.free .any l.toArray (jbd l done) k && (jbd l done).getD z true == false && k != z
theorem jgZ(h:jpr l z done k=true):(k∈Region.ready .any l.toArray (jbd l done)/\Region.free .any l.toArray (jbd l done) k=true)/\(jbd l done).getD z true=false/\k≠z:=by
 simp only[jpr,cQ,cU,beq_iff_eq,bne_iff_ne]at h
 exact⟨h.1.1,h.1.2,h.2⟩
theorem jrV(o:Oper)(ho:l[k]?=some o)(hk:jpr l z done k=true)(hw:Region.wanted o (yielded l.toArray a.tmps)=true)(hq:jjj o.op=true)
  (h:∀ K:Act->Prop,(∀ a',MixZ P l z hd E D Q ord (k :: done) a' w->K a')->o.quiet P a (fun _=>True) K):MixZ P l z hd E D Q (k :: ord) done a w:=by
 obtain⟨⟨q,H⟩,J,O⟩:=jgZ hk
 obtain⟨v,X,Z⟩:=h _ (fun _ h=>h)
 refine⟨J,O,.inl ⟨q,H,o,v,ho,.inr (.inl ⟨hw,fun w1=>?_⟩),Z⟩⟩
 have e:=X w1 trivial;unfold Oper.quietAt at e;have h4:=fun f args w'=>jkp (ρ:=a.eval) hq P w1 w' f args;generalize (execOp a.eval o).run P w1=r at *;cases r with
 | ok n w'=>cases n <;> simp only[Oper.quietUpon]at e <;> first | exact e | exact absurd rfl (h4 _ _ _)
 | halt x w'=>simp only[Oper.quietUpon]at e
theorem jcx(o:Oper)(v:vV)(ho:l[k]?=some o)(hk:jpr l z done k=true)(hw:Region.wanted o (yielded l.toArray a.tmps)=true)
  (hv:∀ w1,(execOp a.eval o).run P w1=.ok (.value v) w1) (h:MixZ P l z hd E D Q ord (k :: done) (a.put o.dst v) w):MixZ P l z hd E D Q (k :: ord) done a w:=by
 obtain⟨⟨e,q⟩,H,J⟩:=jgZ hk
 exact⟨H,J,.inl ⟨e,q,o,v,ho,.inr (.inl ⟨hw,fun w1=>by rw[hv w1];exact⟨rfl,rfl⟩⟩),h⟩⟩
theorem juf(o:Oper)(v:vV)(ho:l[k]?=some o)(hk:jpr l z done k=true)(he:jpj l.toArray z k=true)(hw:Region.wanted o (yielded l.toArray a.tmps)=true)
  (hv:∀ w1,D w w1->(execOp a.eval o).run P w1=.ok (.value v) w1) (h:MixZ P l z hd E D Q ord (k :: done) (a.put o.dst v) w):MixZ P l z hd E D Q (k :: ord) done a w:=by
 obtain⟨⟨e,q⟩,H,J⟩:=jgZ hk
 exact⟨H,J,.inl ⟨e,q,o,v,ho,.inl ⟨he,.inl ⟨hw,fun w1 K=>by rw[hv w1 K];exact⟨rfl,rfl⟩⟩⟩,h⟩⟩
theorem jgs(p:Addr)(v:vV){t:TypeId}{x:Operand}{d:Option Tmp}{ty:TypeId}{pos:String}{af:Array Edge}{g:Option (Nat × Bool)}(ho:l[k]?=some ⟨d,.load t x,ty,pos,af,g⟩)(hk:jpr l z done k=true)(he:jpj l.toArray z k=true)
  (hw:Region.wanted ⟨d,.load t x,ty,pos,af,g⟩ (yielded l.toArray a.tmps)=true) (hx:a.eval x=.pointer (some p))
  (hv:∀ w1,D w w1->(Instr.loadAt t (.pointer (some p))).run P w1=.ok v w1) (h:MixZ P l z hd E D Q ord (k :: done) (a.put d v) w):MixZ P l z hd E D Q (k :: ord) done a w:=by
 refine juf _ v ho hk he hw (fun w1 e=>?_) h
 have:=hv w1 e
 simp only[execOp,hx,bT,this,Result.andThen,cJ]
def ju2(l:List Oper)(z:Nat)(hd done:List Nat)(k:Nat):Bool:=Region.ready .any l.toArray (jbd l done) == [k] && (jbd l done).getD z true == false && k != z && hd.contains k
theorem jgq(o:Oper)(ho:l[k]?=some o)(hk:ju2 l z hd done k=true)(hw:Region.wanted o (yielded l.toArray a.tmps)=true)
  (h:∀ w1,E w w1->∀ K:Act->vW->Prop,(∀ a' w',D w1 w'->MixZ P l z hd E D Q ord (k :: done) a' w'->K a' w')->o.wp P a w1 K NoQ):MixZ P l z hd E D Q (k :: ord) done a w:=by
 simp only[ju2,cQ,beq_iff_eq,bne_iff_ne,cU]at hk
 refine⟨hk.1.1.2,hk.1.2,.inr ⟨hk.1.1.1,hk.2,fun w1 q=>?_⟩⟩
 unfold wpOp;have e:l.toArray[k]?=some o:=by simpa using ho
 simp only[e,hw,if_true];exact .inl (h w1 q _ (fun _ _ H J=>⟨H,J⟩))
def jyh(l:List Oper)(z:Nat)(done:List Nat):Bool:=Region.ready .any l.toArray (jbd l done) == [z] && (jbd l done).getD z true == false && (jbd l (z :: done)).getD z true == true && (Region.ready .any l.toArray (jbd l (z :: done))).isEmpty
theorem jgr(o:Oper)(ho:l[z]?=some o)(hk:jyh l z done=true)(hw:Region.wanted o (yielded l.toArray a.tmps)=true)
  (h:∀ w1,E w w1->∀ K:Act->vW->Prop,(∀ a' w',Q a' w'->K a' w')->o.wp P a w1 K NoQ):MixZ P l z hd E D Q [] done a w:=by
 simp only[jyh,cQ,beq_iff_eq,List.isEmpty_iff]at hk
 refine⟨hk.1.1.1,hk.1.1.2,hk.1.2,hk.2,fun w1 q=>?_⟩
 unfold wpOp;have e:l.toArray[z]?=some o:=by simpa using ho
 simp only[e,hw,if_true];exact .inl (h w1 q _ (fun _ _ h=>h))
end mixz
end
section
attribute [local go_sem] Oper.semAt_some
theorem jcY{p:vB}(h:p.size≠0):p.toList.isEmpty=false:=by
 rw[gC];intro e;rw[List.isEmpty_iff,bW]at e;exact h (by rw[<-jaO,e];rfl)
theorem PaEx.mk1{D:Nat->Prop}{W W':vW}{P:PA}{v:vV}(h:PaAt P v (Grow D W W') W')(e:Ext W W'):PaEx D W P (.returned v) W':=⟨v,rfl,h,e⟩
theorem jyw(W:vW)(D:Nat->Prop)(P:PA)(v:vV)(h:PaAt P v D W):vQ 265 #[.string ⟨#[]⟩,v] W (PaEx D W P):=by
 have H:=Hd h;clear h;go_enter Tryz.func265,Tryz.ntmps265;have e:(⟨#[]⟩:vB).toList.isEmpty=true:=by rw[bW];rfl
 go_wp2_with fail
 go_ret;exact PaEx.mk1 (H.o.mono (fun x q=>.inl q)) (ExtR W)
theorem jwB(W:vW)(D:Nat->Prop)(a q u:vB)(b:Nat)(hB:Blk W b (.cells #[.string q,.string u] 235))(h0:a.size≠0)(ha:a.size<=1000000)(hq:q.size<=1000000) :
  vQ 265 #[.string a,jiT b] W (PaEx D W (.leaf (a++q) u)):=by
 have a0:=jcY h0;have X:=hB.cell (i:=0) (v:=.string q) vF;have Z:=hB.cell (i:=1) (v:=.string u) vF;have Q0:=Hd X;have Q1:=Hd Z;have hT:=jwm b;unfold jiT at hT ⊢;clear hB h0 X Z;go_enter Tryz.func265,Tryz.ntmps265;go_wp2_with fail
 refine jai [0,1,2,3,4,5,6,7,8,9,10,11,12,13] (Ext) ExtR ExtT vY vY vY ?_;iterate 2 refine vK ?_
 refine qKV _ ((.pointer (some ⟨b,0,none⟩))) rfl (fun w1 _=>by kernel_rfl) ?_;refine vS ?_
 refine vK ?_
 refine qKL ⟨b,0,none⟩ _ rfl (fun w1 O=>jas (fun w=>by kernel_rfl) (jaa Q0.o ((jaj _).trans O))) ?_;refine vS ?_;iterate 2 refine vK ?_
 refine qKV _ ((.pointer (some ⟨b,0,none⟩))) rfl (fun w1 _=>by kernel_rfl) ?_;refine vS ?_
 refine vK ?_
 refine qKL ⟨b,1,none⟩ _ rfl (fun w1 O=>jas (fun w=>by kernel_rfl) (jaa Q1.o ((jaj _).trans O))) ?_;refine vS ?_
 refine vK ?_
 refine jee _ rfl vY rfl (fun z hb K hK=>?_);refine jco (v:=.pointer (some ⟨z.heap.size,0,none⟩)) (w':=z.alloc (.cells #[.string (a++q),.string u] 235)) vY (hK _ _ ((ExtR z).alloc _) ?_);clear hK K;have hN:=Blk.new z (.cells #[.string (a++q),.string u] 235);refine vS ?_;iterate 2 refine vK ?_
 refine qKE (fun w5 Q=>?_);have H:Ext W w5:=(((jaj W).trans hb).trans ((ExtR z).alloc _)).trans Q;have e:=hN.keeps Q (fun h=>h);have E:=hb.size;have E:W.heap.size<=z.heap.size:=E;have J:=e.lt;have HX:=Hd (bB H (bB e (bB E J)));clear Q hN hb H e E J;go_wp2_with fail
 go_ret
 obtain⟨H,e,E,J⟩:=HX.o
 exact PaEx.mk1 ⟨_,rfl,.inr ⟨E,J⟩,e⟩ H
theorem jyv(W:vW)(D:Nat->Prop)(a q:vB)(n:PA)(T:TypeId)(x:vV)(Dn:Nat->Prop)(b:Nat)(hB:Blk W b (.cells #[.string q,.iface T x] 238))(Q:PaAt n (.iface T x) Dn W)(J:∀ x,Dn x->D x/\x < W.heap.size)(h0:a.size≠0)(ha:a.size<=1000000)(hq:q.size<=1000000) :
  vQ 265 #[.string a,extV b] W (PaEx D W (.ext (a++q) n)):=by
 have a0:=jcY h0;have q0:=hB.cell (i:=0) (v:=.string q) vF;have q1:=hB.cell (i:=1) (v:=.iface T x) vF;have Q0:=Hd q0;have Q1:=Hd q1;have HV:=Hd (bB Q J);have hT:=jx8 b;have Z:=jmV (extV b) (.inl ⟨b,rfl⟩);unfold extV at hT Z ⊢;clear hB h0 q0 q1 Q J;go_enter Tryz.func265,Tryz.ntmps265;go_wp2_with fail
 refine jai [0,1,2,3,4,5,6,7,8,9,10,11,12,13] (Ext) ExtR ExtT vY vY vY ?_;iterate 2 refine vK ?_
 refine qKV _ ((.pointer (some ⟨b,0,none⟩))) rfl (fun w1 _=>by kernel_rfl) ?_;refine vS ?_
 refine vK ?_
 refine qKL ⟨b,0,none⟩ _ rfl (fun w1 h1=>jas (fun w=>by kernel_rfl) (jaa Q0.o ((jaj _).trans h1))) ?_;refine vS ?_;iterate 2 refine vK ?_
 refine qKV _ ((.pointer (some ⟨b,0,none⟩))) rfl (fun w1 _=>by kernel_rfl) ?_;refine vS ?_
 refine vK ?_
 refine qKL ⟨b,1,none⟩ _ rfl (fun w1 h1=>jas (fun w=>by kernel_rfl) (jaa Q1.o ((jaj _).trans h1))) ?_;refine vS ?_
 refine vK ?_
 refine jee _ rfl vY rfl (fun E hb K hK=>?_);refine jco (v:=.pointer (some ⟨E.heap.size,0,none⟩)) (w':=E.alloc (.cells #[.string (a++q),.iface T x] 238)) vY (hK _ _ ((ExtR E).alloc _) ?_);clear hK K;have hN:=Blk.new E (.cells #[.string (a++q),.iface T x] 238);refine vS ?_;iterate 2 refine vK ?_
 refine qKE (fun w5 he=>?_);have O:Ext W w5:=(((jaj W).trans hb).trans ((ExtR E).alloc _)).trans he;have z:=hN.keeps he (fun h=>h);have H:=hb.size;have H:W.heap.size<=E.heap.size:=H;have X:=z.lt;have HX:=Hd (bB O (bB z (bB H X)));clear he hN hb O z H X;go_wp2_with fail
 go_ret
 obtain⟨O,z,H,X⟩:=HX.o
 obtain⟨Q,J⟩:=HV.o
 exact PaEx.mk1 ⟨_,T,x,Dn,rfl,.inr ⟨H,X⟩,z,Q.keeps O n (.iface T x) Dn (fun _ _ e=>e),fun e=>by have:=(J _ e).2;omega,fun x hx=>.inl (J x hx).1⟩ O
theorem jzu(W:vW)(D:Nat->Prop)(a:vB)(u:vB)(ks:Nat->PA)(b:Nat)(h:PaO (.br u ks) (brV b) D W)(h0:a.size≠0) :
  vQ 265 #[.string a,brV b] W (PaEx D W (.ext a (.br u ks))):=by
 have K:=jcY h0;have E:=Hd h;have O:=jy8 b;have q:=jmV (brV b) (.inr (.inl ⟨b,rfl⟩));have z:=jvc (brV b) (.inl ⟨b,rfl⟩);unfold brV at O q z ⊢;clear h h0;go_enter Tryz.func265,Tryz.ntmps265;go_wp2_with fail
 go_ret;have H:Ext W (W.alloc (.cells #[.string a,brV b] 238)):=(ExtR W).alloc _;have J:=Blk.new W (.cells #[.string a,brV b] 238);exact PaEx.mk1 ⟨_,_,_,D,rfl,.inr ⟨bM _,J.lt⟩,J,E.o.at'.keeps H _ _ _ (fun _ _ e=>e),fun e=>by have:=E.o.lt _ e;omega,fun x Q=>.inl Q⟩ H
theorem jzv(W:vW)(D:Nat->Prop)(a:vB)(h0:a.size≠0):vQ 265 #[.string a,noV] W (PaEx D W .no):=by
 have z:=jcY h0;have e:=jmV noV (.inr (.inr rfl));have o:=jvc noV (.inr rfl);have q:=jy9;unfold noV at e o q ⊢;clear h0;go_enter Tryz.func265,Tryz.ntmps265;go_wp2_with fail
 go_ret;exact PaEx.mk1 rfl (ExtR W)
theorem pj_c(W:vW)(D:Nat->Prop)(a:vB)(P:PA)(v:vV)(h:PaO P v D W)(hn:P.isNil=false)(ha:a.size<=1000000)(hd:Dp P 1000000) :
  vQ 265 #[.string a,v] W (PaEx D W (jb8 a P)):=by
 unfold jb8
 by_cases h0:a.size=0
 ·rw[if_pos h0,jbo h0];exact jyw W D P v h.at'
 rw[if_neg h0];cases P with
 | nil=>cases hn
 | no=>obtain rfl:v=noV:=h.at';exact jzv W D a h0
 | leaf q u =>
  obtain⟨b,rfl,o,e⟩:=h.at'
  exact jwB W D a q u b e h0 ha hd
 | ext q n =>
  obtain⟨b,T,x,J,rfl,o,e,z,K,E⟩:=h.at'
  exact jyv W D a q n T x J b e z (fun x H=>⟨E x H,h.lt x (E x H)⟩) h0 ha hd.1
 | br u ks =>
  obtain⟨b,O,Q,rfl,o,e,z,K⟩:=h.at'
  exact jzu W D a u ks b h h0
end
section
attribute [local go_sem] Oper.semAt_some
theorem jdy{a:vB}{P:PA}(h:P.isNil=false):(jb8 a P).isNil=false:=by
 unfold jb8;split
 ·exact h
 ·cases P <;> rfl
theorem jix:∀ (P:PA) (p u:vB),(putP P p u).isNil=false
 | .nil,_,_=>rfl
 | .no,_,_=>rfl
 | .leaf q v,p,u=>by
  unfold putP;split
  ·rfl
  ·refine jdy ?_
   rw[jcI];split
   ·rw[jcI];split <;> rfl
   ·rw[jcI];split <;> rfl
 | .ext q n,p,u=>by
  unfold putP;split
  ·exact jdy (jix n _ _)
  ·refine jdy ?_
   rw[jcI];split <;> rfl
 | .br v ks,p,u=>by
  unfold putP;split <;> rfl
theorem jcz{P:Program}{a:Act}{w:vW}{d:Option Tmp}{x:Operand}{name:String}{args:Array Operand}{ats:Array TypeId}{ty:TypeId}{pos:String}{af:Array Edge}{g:Option (Nat × Bool)}{T:TypeId}{v r:vV}{f:FuncId}{vs:Array vV}(hx:a.eval x=.iface T v)
  (hm:(Go.method (P.types.size+Made.depth) T v name).run P w=.ok (f,r) w) (eg:∀ args w,(callFunc f args).run P w=.ok (.enter f args) w) (hv:args.map a.eval=vs) :
  (execOp a.eval ⟨d,.call { callee:=.invoke x name,args:=args,argTypes:=ats },ty,pos,af,g⟩).run P w=.ok (.enter f (#[r]++vs)) w:=by
 subst hv;have e:(#[Value.iface T v]++args.map a.eval)[0]?=some (.iface T v):=by simp[Array.getElem?_append]
 have o:(#[Value.iface T v]++args.map a.eval).extract 1 (#[Value.iface T v]++args.map a.eval).size=args.map a.eval:=by simp
 simp only[execOp,resolve,hx,bT,cJ,Result.andThen,invoke,e,o,callMethod,run_program,hm,eg]
def jkg:PA->FuncId
 | .leaf _ _=>263
 | .ext _ _=>269
 | .br _ _=>264
 | _=>279
def je3:PA->FuncId
 | .leaf _ _=>260
 | .ext _ _=>266
 | .br _ _=>272
 | _=>276
def jfZ:PA->FuncId
 | .leaf _ _=>261
 | .ext _ _=>267
 | .br _ _=>273
 | _=>277
def jlN:PA->FuncId
 | .leaf _ _=>262
 | .ext _ _=>268
 | .br _ _=>274
 | _=>278
set_option maxRecDepth 100000
theorem jh9(P:PA):∀ args w,(callFunc (jkg P) args).run Tryz.prog w=.ok (.enter (jkg P) args) w:=by intro args w;cases P <;> kernel_rfl
theorem jfr(P:PA):∀ args w,(callFunc (je3 P) args).run Tryz.prog w=.ok (.enter (je3 P) args) w:=by intro args w;cases P <;> kernel_rfl
theorem jd7(P:PA):∀ args w,(callFunc (jfZ P) args).run Tryz.prog w=.ok (.enter (jfZ P) args) w:=by intro args w;cases P <;> kernel_rfl
theorem jpk(P:PA):∀ args w,(callFunc (jlN P) args).run Tryz.prog w=.ok (.enter (jlN P) args) w:=by intro args w;cases P <;> kernel_rfl
structure jxu(P:PA)(T:TypeId)(x:Value):Prop where
 put:∀ w,(Go.method (Tryz.prog.types.size+Made.depth) T x "guilloche/trie.put").run Tryz.prog w=.ok (jkg P,x) w
 drop:∀ w,(Go.method (Tryz.prog.types.size+Made.depth) T x "guilloche/trie.drop").run Tryz.prog w=.ok (je3 P,x) w
 ent:∀ w,(Go.method (Tryz.prog.types.size+Made.depth) T x "guilloche/trie.entries").run Tryz.prog w=.ok (jfZ P,x) w
 form:∀ w,(Go.method (Tryz.prog.types.size+Made.depth) T x "guilloche/trie.form").run Tryz.prog w=.ok (jlN P,x) w
theorem PaAt.meth{P:PA}{T:TypeId}{x:vV}{D:Nat->Prop}{W:vW}(h:PaAt P (.iface T x) D W):jxu P T x:=by
 cases P with
 | nil=>cases h
 | no =>
  have h:Value.iface T x=noV:=h;unfold noV at h;injection h with h1 h2;subst h1 h2
  exact⟨fun w=>by kernel_rfl,fun w=>by kernel_rfl,fun w=>by kernel_rfl,fun w=>by kernel_rfl⟩
 | leaf q u =>
  obtain⟨b,h,_⟩:=h
  unfold jiT at h;injection h with h1 h2;subst h1 h2
  exact⟨fun w=>by kernel_rfl,fun w=>by kernel_rfl,fun w=>by kernel_rfl,fun w=>by kernel_rfl⟩
 | ext q n =>
  obtain⟨b,_,_,_,h,_⟩:=h
  unfold extV at h;injection h with h1 h2;subst h1 h2
  exact⟨fun w=>by kernel_rfl,fun w=>by kernel_rfl,fun w=>by kernel_rfl,fun w=>by kernel_rfl⟩
 | br u ks =>
  obtain⟨b,_,_,h,_⟩:=h
  unfold brV at h;injection h with h1 h2;subst h1 h2
  exact⟨fun w=>by kernel_rfl,fun w=>by kernel_rfl,fun w=>by kernel_rfl,fun w=>by kernel_rfl⟩
theorem jwv:jxu .no 244 (.agg #[]):=PaAt.meth (D:=fun _=>True) (W:={ (default:vW)with heap:=#[] }) rfl
def PutC(P:PA):Prop:=∀ (W:vW) (T:TypeId) (x:vV) (D:Nat->Prop) (p u:vB),PaO P (.iface T x) D W->p.size<=900000->jaM p=true->Dp P 900000 ->
 vQ (jkg P) #[x,.string p,.string u] W (PaTo D W (putP P p u))
theorem PaTo.mk1{D:Nat->Prop}{W W':vW}{P:PA}{v:vV}(h:PaAt P v (Grow D W W') W')(e:jad D W W'):PaTo D W P (.returned v) W':=⟨v,rfl,h,e⟩
theorem jmK(T:TypeId)(x:vV)(w:vW):(binOp .eql 87 (.iface T x) .nilIface).run Tryz.prog w=.ok (.bool false) w:=vY
theorem jx7(w:vW):(binOp .eql 87 .nilIface .nilIface).run Tryz.prog w=.ok (.bool true) w:=vY
theorem jgM(u:vB)(vk:Nat->vV):(brC u vk).length=17:=by simp[brC]
theorem jes(u:vB)(vk:Nat->vV){i:Nat}(h:i < 16):(brC u vk)[1+i]?=some (vk i):=by
 rw[gR];show ((List.range 16).map vk)[i]?=_;rw[cA,dV h];rfl
def setV(vk:Nat->vV)(i:Nat)(v:vV):Nat->vV:=fun j=>if j=i then v else vk j
theorem jqt(u:vB)(vk:Nat->vV){i:Nat}(h:i < 16)(v:vV):(brC u vk).toArray.setIfInBounds (1+i) v=(brC u (setV vk i v)).toArray:=by
 have e:(brC u vk).set (1+i) v=brC u (setV vk i v):=by
  rw[gR];show Value.string u ::((List.range 16).map vk).set i v=Value.string u ::(List.range 16).map (setV vk i v)
  congr 1
  apply List.ext_getElem?;intro j;rw[List.getElem?_set]
  by_cases hj:i=j
  ·subst hj
   rw[if_pos rfl,if_pos (by simpa using h),cA,dV h];simp[setV]
  ·rw[if_neg hj]
   by_cases hj16:j < 16
   ·rw[cA,cA,dV hj16]
    simp[setV,Ne.symm hj]
   ·rw[iY (by simp;omega),iY (by simp;omega)]
 rw[<-e];simp
theorem jvQ(u u':vB)(vk:Nat->vV):(brC u vk).toArray.setIfInBounds 0 (.string u')=(brC u' vk).toArray:=by simp[brC]
structure BrAt(u:vB)(ks:Nat->PA)(b:Nat)(vk:Nat->Value)(Dk:Nat->Nat->Prop)(D:Nat->Prop)(W:World):Prop where
 mem:D b
 blk:Blk W b (.cells (brC u vk).toArray 242)
 kid:∀ i,i < 16->PaAt (ks i) (vk i) (Dk i) W/\¬ Dk i b/\∀ x,Dk i x->D x
 apart:∀ i j,i < 16->j < 16->i≠j->∀ x,Dk i x->¬ Dk j x
 lt:∀ x,D x->x < W.heap.size
theorem BrAt.pa{u:vB}{ks:Nat->PA}{b:Nat}{vk:Nat->vV}{Dk:Nat->Nat->Prop}{D:Nat->Prop}{W:vW}(h:BrAt u ks b vk Dk D W):PaO (.br u ks) (brV b) D W:=
 ⟨⟨b,vk,Dk,rfl,h.mem,h.blk,h.kid,h.apart⟩,h.lt⟩
theorem PaO.br{u:vB}{ks:Nat->PA}{b:Nat}{D:Nat->Prop}{W:vW}(h:PaO (.br u ks) (brV b) D W):∃ o q,BrAt u ks b o q D W:=by
 obtain⟨K,o,q,e,z,E,H,J⟩:=h.at'
 unfold brV at e;injection e with _ e;injection e with e;injection e with e;injection e with e;subst e
 exact⟨o,q,z,E,H,J,h.lt⟩
theorem BrAt.keeps{F:BSet}{u:vB}{ks:Nat->PA}{b:Nat}{vk:Nat->vV}{Dk:Nat->Nat->Prop}{D:Nat->Prop}{W W':vW}(h:BrAt u ks b vk Dk D W)(k:jad F W W')(hF:∀ x,D x->¬ F x):BrAt u ks b vk Dk D W':=
 ⟨h.mem,h.blk.keeps k (hF b h.mem),fun i e=>⟨(h.kid i e).1.keeps k _ _ _ (fun x o=>hF x ((h.kid i e).2.2 x o)),(h.kid i e).2⟩,h.apart,fun x o=>bP (h.lt x o) k.size⟩
theorem BrAt.val{u:vB}{ks:Nat->PA}{b:Nat}{vk:Nat->vV}{Dk:Nat->Nat->Prop}{D:Nat->Prop}{W:vW}(h:BrAt u ks b vk Dk D W)(u':vB):BrAt u' ks b vk Dk D (W.setCell ⟨b,0,none⟩ (.string u')):=by
 have K:=jad.oneSet W ⟨b,0,none⟩ (.string u');have z:=h.blk.set_same (i:=0) (.string u');rw[jvQ]at z
 exact⟨h.mem,z,fun i o=>⟨(h.kid i o).1.keeps K _ _ _ (fun x q e=>(h.kid i o).2.1 (by have e:x=b:=e;rw[<-e];exact q)),(h.kid i o).2⟩,h.apart,fun x q=>bP (h.lt x q) K.size⟩
theorem BrAt.turn{u:vB}{ks:Nat->PA}{b:Nat}{vk:Nat->vV}{Dk:Nat->Nat->Prop}{D:Nat->Prop}{W W1:vW}(h:BrAt u ks b vk Dk D W){i:Nat}(hi:i < 16){P:PA}{v:vV}(k:jad (Dk i) W W1)(hP:PaAt P v (Grow (Dk i) W W1) W1) :
  BrAt u (setK ks i P) b (setV vk i v) (fun j=>if j=i then Grow (Dk i) W W1 else Dk j) (Grow D W W1) (W1.setCell ⟨b,1+i,none⟩ v):=by
 have K:=jad.oneSet W1 ⟨b,1+i,none⟩ v;have X:=(h.blk.keeps k (h.kid i hi).2.1).set_same (i:=1+i) v;rw[jqt u vk hi]at X;have Z:=h.lt b h.mem
 refine⟨.inl h.mem,X,fun j z=>?_,fun j l z Q H x o q=>?_,fun x o=>?_⟩
 ·by_cases e:j=i
  ·subst e
   simp only[if_pos,jcc];rw[show setV vk j v j=v from if_pos rfl]
   refine⟨hP.keeps K _ _ _ (fun x o e=>?_),fun e=>?_,fun x o=>?_⟩
   ·have e:x=b:=e
    rw[e]at o;rcases o with o | o
    ·exact (h.kid j hi).2.1 o
    ·omega
   ·rcases e with e | e
    ·exact (h.kid j hi).2.1 e
    ·omega
   ·rcases o with o | o
    ·exact .inl ((h.kid j hi).2.2 x o)
    ·exact .inr o
  ·simp only[if_neg e]
   rw[jeG _ _ e,show setV vk i v j=vk j from if_neg e]
   refine⟨((h.kid j z).1.keeps k _ _ _ (fun x o q=>h.apart j i z hi e x o q)).keeps K _ _ _ (fun x o e=>?_),(h.kid j z).2.1,fun x o=>.inl ((h.kid j z).2.2 x o)⟩
   have e:x=b:=e;rw[e]at o;exact (h.kid j z).2.1 o
 ·have O:∀ m,m < 16->Dk m x->¬(W.heap.size<=x/\x < W1.heap.size):=fun m hm hd e=>by have:=h.lt x ((h.kid m hm).2.2 x hd);omega
  by_cases e:j=i
  ·subst e
   have J:Grow (Dk j) W W1 x:=by simpa using o
   have E:Dk l x:=by simpa [Ne.symm H]using q
   rcases J with J | J
   ·exact h.apart j l z Q H x J E
   ·exact O l Q E J
  ·have J:Dk j x:=by simpa [e]using o
   by_cases e2:l=i
   ·subst e2
    have E:Grow (Dk l) W W1 x:=by simpa using q
    rcases E with E | E
    ·exact h.apart j l z Q H x J E
    ·exact O j z J E
   ·have E:Dk l x:=by simpa [e2]using q
    exact h.apart j l z Q H x J E
 ·exact bP (jey h.lt k x o) K.size
theorem BrAt.turn_keeps{u:vB}{ks:Nat->PA}{b:Nat}{vk:Nat->vV}{Dk:Nat->Nat->Prop}{D:Nat->Prop}{W W1:vW}(h:BrAt u ks b vk Dk D W){i:Nat}(hi:i < 16)(k:jad (Dk i) W W1)(v:vV):jad D W (W1.setCell ⟨b,1+i,none⟩ v):=
 (k.mono (fun x _ o=>(h.kid i hi).2.2 x o)).trans' (jad.oneSet W1 ⟨b,1+i,none⟩ v) (fun x _ e=>by have e:x=b:=e;rw[e];exact h.mem)
theorem jr4(W:vW)(D:Nat->Prop)(p u:vB):vQ 279 #[.agg #[],.string p,.string u] W (PaTo D W (.leaf p u)):=by
 go_enter Tryz.func279,Tryz.ntmps279;go_wp2_with fail
 go_ret;have q:=((ExtR W).alloc (.cells #[] 244)).alloc (.cells #[.string p,.string u] 235);have o:=Blk.new (W.alloc (.cells #[] 244)) (.cells #[.string p,.string u] 235);rw[bN]at o;exact PaTo.mk1 ⟨_,rfl,.inr ⟨Nat.le_succ _,o.lt⟩,o⟩ (q.mono (fun _ _ e=>e.elim))
theorem jnu(W:vW)(D:Nat->Prop)(u0 u:vB)(ks:Nat->PA)(b:Nat)(h:PaO (.br u0 ks) (brV b) D W):vQ 264 #[.pointer (some ⟨b,0,none⟩),.string ⟨#[]⟩,.string u] W (fun e w'=>e=.returned (brV b)/\PaTo D W (.br u ks) e w'):=by
 obtain⟨E,J,hb⟩:=h.br
 have O:=hb.blk.cellL (i:=0) (v:=.string u0) vF;have Q:W.frozen? ⟨b,0,none⟩=false:=hb.blk.frozen;have H:=Hd hb;have q:(⟨#[]⟩:vB).toList.isEmpty=true:=by rw[bW];rfl
 clear h hb;go_enter Tryz.func264,Tryz.ntmps264;go_wp2_with fail
 go_ret;have K:=jad.oneSet W ⟨b,0,none⟩ (.string u)
 exact⟨rfl,PaTo.mk1 ((H.o.val u).pa.at'.mono (fun x z=>.inl z)) (K.mono (fun x _ e=>by have e:x=b:=e;rw[e];exact H.o.mem))⟩
theorem jtn(W:vW)(D:Nat->Prop)(u0 u:vB)(ks:Nat->PA)(b:Nat)(h:PaO (.br u0 ks) (brV b) D W)(p:vB)(h0:p.size≠0)(hp:jaM p=true)(hs:p.size<=900000)(hn:(ks (jao p)).isNil=false)(hd:Dp (ks (jao p)) 900000)(hk:PutC (ks (jao p))) :
  vQ 264 #[.pointer (some ⟨b,0,none⟩),.string p,.string u] W (fun e w'=>e=.returned (brV b)/\PaTo D W (.br u0 (setK ks (jao p) (putP (ks (jao p)) (jbs p) u))) e w'):=by
 obtain⟨vk,Dk,hb⟩:=h.br
 obtain⟨y,t,hy⟩:=jcd h0
 obtain⟨e1,e2⟩:=jbE hy
 have q:=jdJ hp h0
 obtain⟨g0,a6⟩:=jgl hy
 have b1:=jcY h0;have Q:=jcm hp;have a3:(jbs p).size<=900000:=by unfold jbs;rw[jaZ];omega
 have hI:jao p=(p[0]'g0).toNat:=by rw[e1,a6]
 have J:=hb.kid (jao p) q
 obtain⟨T,x,a1⟩:=J.1.form hn
 have q1:=hb.blk.cellL (jes u0 vk q);rw[a1]at q1;have HK:=Hd hk;have HB:=Hd hb;have HM:=Hd ((show PaAt (ks (jao p)) (.iface T x) (Dk (jao p)) W by rw[<-a1];exact J.1).meth);have a8:=Hd (show PaAt (ks (jao p)) (.iface T x) (Dk (jao p)) W by rw[<-a1];exact J.1);have a9:=Hd hd;clear hb J hk hd;have a0:=Hd (show ∀ X,Ext W X->vQ (jkg (ks (jao p))) #[x,.string (jbs p),.string u] X (PaTo (Dk (jao p)) X (putP (ks (jao p)) (jbs p) u))from fun X e=>HK.o X T x _ _ _ ⟨a8.o.keeps e _ _ _ (fun _ _ e=>e),fun z hz=>bP (HB.o.lt z ((HB.o.kid _ q).2.2 z hz)) e.size⟩ a3 Q a9.o);have hQ:=jmK T x;have Q1:=Hd q1;have b0:=Hd (show ¬(Dk (jao p) b\/W.heap.size<=b)from fun e=>e.elim (HB.o.kid _ q).2.1 (fun e=>by have:=HB.o.lt b HB.o.mem;omega));have a4:=Hd hI;have E:=Hd q;have b2:=Hd (bB Q a3);have c1:(0:Int) < (p.size:Int):=vO
 have c2:((p[0]'g0).toNat:Int) < 16:=vO
 have c3:(1:Int)<=(p.size:Int):=vO
 rw[hI]at q1;have a7:(p[0]'g0).toNat < 16:=vO
 obtain⟨i,hi⟩:=vE (p[0]'g0).toNat
 have b3:=Hd hi;clear h a1 hy e1 e2 h0 hp hn a6 Q a3 q hI hi;go_enter Tryz.func264,Tryz.ntmps264;go_wp2_with fail
 refine jc7 [0,1,2,3,4,5,6,7,8,9,10,11,12,14,15,13,16] 17 [13] Ext (jad (fun z=>Dk (jao p) z\/W.heap.size<=z)) ExtR ExtT (fun x y z h k=>jad.trans h k) (fun x y h=>h.mono (fun _ _ h=>h.elim)) vY vY vY ?_;iterate 4 refine vZ ?_
 refine jcx _ ((.pointer (some ⟨b,0,none⟩))) rfl vY rfl (fun w1=>by kernel_rfl) ?_;refine vS ?_;iterate 2 refine vZ ?_
 refine jgs ⟨b,1+(p[0]'g0).toNat,none⟩ _ rfl vY vY rfl rfl (fun w1 h1=>jas (fun w=>by kernel_rfl) (by rw[<-a4.o];exact jaD Q1.o (((jad.refl (fun z=>Dk (jao p) z\/W.heap.size<=z) W).drew).trans h1) (by exact b0.o))) ?_;refine vS ?_;iterate 3 refine vZ ?_
 refine jcx _ (.iface T x) rfl vY rfl (fun w1=>by kernel_rfl) ?_;refine vS ?_
 refine vZ ?_
 refine jcx _ ((.pointer (some ⟨b,0,none⟩))) rfl vY rfl (fun w1=>by kernel_rfl) ?_;refine vS ?_
 refine vZ ?_
 refine jgq _ rfl vY rfl (fun X hb K hK=>?_);have kb:Ext W X:=(jaj _).trans hb;refine jbD (jcz (f:=jkg (ks (jao p))) (vs:=#[.string (jbs p),.string u]) rfl (HM.o.put _) (jh9 _) vY) ?_;refine (a0.o X kb).mono ?_;rintro e w2 ⟨v2,rfl,Z,O⟩
 refine⟨v2,rfl,hK _ _ (O.mono (fun z _ hz=>.inl hz)) ?_⟩
 have HS:=Hd (bB kb (bB Z O));clear hK K hb kb Z O;refine vS ?_
 refine vZ ?_
 refine jgr _ rfl vY rfl (fun wc hc K hK=>?_)
 obtain⟨hb,Z,O⟩:=HS.o
 have H:=HB.o.keeps (F:=fun _=>False) (hb) (fun _ _ e=>e);have kc:jad (Dk (jao p)) X wc:=O.trans (hc.mono (fun _ _ e=>e.elim));have a5:PaAt (putP (ks (jao p)) (jbs p) u) v2 (Grow (Dk (jao p)) X wc) wc:=(Z.keeps hc _ _ _ (fun _ _ e=>e)).mono (fun z hz=>hz.imp id (fun e=>⟨e.1,bP e.2 hc.size⟩))
 obtain⟨T2,x2,rfl⟩:=a5.form (jix _ _ _)
 have ht:=H.turn E.o kc a5;have a2:=H.turn_keeps E.o kc (.iface T2 x2)
 obtain⟨old,q7⟩:∃ v,wc.cell? ⟨b,1+jao p,none⟩=some v:=⟨_,(H.blk.keeps kc (H.kid _ E.o).2.1).cellL (bA (by rw[jgM];have:=E.o;omega))⟩
 have f7:wc.frozen? ⟨b,1+jao p,none⟩=false:=(H.blk.keeps kc (H.kid _ E.o).2.1).frozen;have HT:=Hd (bB ht (bB a2 hb));rw[a4.o]at q7 f7;clear hb Z O H kc a5 ht a2 hc;go_simp;refine hK _ _ ?_;clear hK K q7 f7;go_wp2_with fail
 go_ret
 obtain⟨ht,a2,hb⟩:=HT.o
 rw[<-a4.o]
 exact⟨rfl,PaTo.mk1 (ht.pa.at'.mono (fun z hz=>hz.imp id (fun e=>⟨bL hb.size e.1,bP e.2 (jad.oneSet wc ⟨b,1+jao p,none⟩ (.iface T2 x2)).size⟩))) (((hb.mono (fun _ _ e=>e.elim)):jad D W X).trans a2)⟩
theorem jnt(W:vW)(D:Nat->Prop)(u0 u:vB)(ks:Nat->PA)(b:Nat)(h:PaO (.br u0 ks) (brV b) D W)(p:vB)(h0:p.size≠0)(hp:jaM p=true)(hs:p.size<=900000)(hn:(ks (jao p)).isNil=true) :
  vQ 264 #[.pointer (some ⟨b,0,none⟩),.string p,.string u] W (fun e w'=>e=.returned (brV b)/\PaTo D W (.br u0 (setK ks (jao p) (.leaf (jbs p) u))) e w'):=by
 obtain⟨vk,Dk,hb⟩:=h.br
 obtain⟨y,t,hy⟩:=jcd h0
 obtain⟨e1,e2⟩:=jbE hy
 have q:=jdJ hp h0
 obtain⟨g0,b0⟩:=jgl hy
 have c0:=jcY h0;have a3:=jcm hp;have b1:(jbs p).size<=900000:=by unfold jbs;rw[jaZ];omega
 have hI:jao p=(p[0]'g0).toNat:=by rw[e1,b0]
 have a4:=hb.kid (jao p) q;have b2:vk (jao p)=.nilIface:=by have:=a4.1;rw[jbu hn]at this;exact this
 have q1:=hb.blk.cellL (jes u0 vk q);rw[b2]at q1;have f1:W.frozen? ⟨b,1+jao p,none⟩=false:=hb.blk.frozen
 obtain⟨W1,O⟩:=vE (W.setCell ⟨b,1+jao p,none⟩ noV)
 have Z:=hb.turn q (P:=.no) (v:=noV) (jad.refl _ W) rfl;rw[<-O]at Z
 obtain⟨Q,a5⟩:=vE (fun j=>if j=jao p then Grow (Dk (jao p)) W W else Dk j)
 obtain⟨b7,a0⟩:=vE (setK ks (jao p) .no)
 have a6:setK b7 (jao p) (.leaf (jbs p) u)=setK ks (jao p) (.leaf (jbs p) u):=by
  funext j;unfold setK;rw[a0];unfold setK
  by_cases e:j=jao p
  ·rw[if_pos e,if_pos e]
  ·rw[if_neg e,if_neg e,if_neg e]
 rw[<-a5, <-a0]at Z;have b3:W1.cell? ⟨b,1+jao p,none⟩=some noV:=by
  have:=Z.blk.cellL (jes u0 _ q)
  rw[this];show some (setV vk (jao p) noV (jao p))=_;unfold setV;rw[if_pos rfl]
 have c4:=Hd O;have b8:=Hd a6;have b4:Hid (∀ z,Grow D W W z->D z):=(fun z J=>J.elim id (fun e=>by omega));have b5:=Hd (show jad D W W1 by rw[O];exact (jad.oneSet W ⟨b,1+jao p,none⟩ noV).mono (fun z _ e=>by have e:z=b:=e;rw[e];exact hb.mem));have HB:=Hd Z;have Q1:=Hd b3;clear a5 a0 Z b3 a6 hb a4;unfold noV at O Q1;have a1:=Hd (show ∀ wb,Ext W1 wb->vQ 279 #[.agg #[],.string (jbs p),.string u] wb (PaTo (Q (jao p)) wb (.leaf (jbs p) u))from fun wb _=>jr4 wb _ _ _);have b9:=Hd (show ¬(Q (jao p) b\/W1.heap.size<=b)from fun e=>e.elim (HB.o.kid _ q).2.1 (fun e=>by have:=HB.o.lt b HB.o.mem;omega));have a8:=Hd hI;have E:=Hd q;have c5:=Hd (bB a3 b1);have c1:(0:Int) < (p.size:Int):=vO
 have c2:((p[0]'g0).toNat:Int) < 16:=vO
 have c3:(1:Int)<=(p.size:Int):=vO
 rw[hI]at q1 f1 O;have b6:(p[0]'g0).toNat < 16:=vO
 obtain⟨i,hi⟩:=vE (p[0]'g0).toNat
 have c6:=Hd hi;clear h b2 hy e1 e2 h0 hp hn b0 a3 b1 q hI hi;go_enter Tryz.func264,Tryz.ntmps264;go_wp2_with fail
 rw[<-O];refine jc7 [0,1,2,3,4,5,6,7,8,9,10,11,12,14,15,13,16] 17 [13] Ext (jad (fun z=>Q (jao p) z\/W1.heap.size<=z)) ExtR ExtT (fun x y z h k=>jad.trans h k) (fun x y h=>h.mono (fun _ _ h=>h.elim)) vY vY vY ?_;iterate 4 refine vZ ?_
 refine jcx _ ((.pointer (some ⟨b,0,none⟩))) rfl vY rfl (fun w1=>by kernel_rfl) ?_;refine vS ?_;iterate 2 refine vZ ?_
 refine jgs ⟨b,1+(p[0]'g0).toNat,none⟩ _ rfl vY vY rfl rfl (fun w1 h1=>jas (fun w=>by kernel_rfl) (by rw[<-a8.o];exact jaD Q1.o (((jad.refl (fun z=>Q (jao p) z\/W1.heap.size<=z) W1).drew).trans h1) (by exact b9.o))) ?_;refine vS ?_;iterate 3 refine vZ ?_
 refine jcx _ (.iface 244 (.agg #[])) rfl vY rfl (fun w1=>by kernel_rfl) ?_;refine vS ?_
 refine vZ ?_
 refine jcx _ ((.pointer (some ⟨b,0,none⟩))) rfl vY rfl (fun w1=>by kernel_rfl) ?_;refine vS ?_
 refine vZ ?_
 refine jgq _ rfl vY rfl (fun wb hb K hK=>?_);have kb:Ext W1 wb:=(jaj _).trans hb;refine jbD (jcz (f:=279) (vs:=#[.string (jbs p),.string u]) rfl (jwv.put _) (fun args w=>by kernel_rfl) vY) ?_;refine (a1.o wb kb).mono ?_;rintro e w2 ⟨v2,rfl,a2,X⟩
 refine⟨v2,rfl,hK _ _ (X.mono (fun z _ J=>.inl J)) ?_⟩
 have HS:=Hd (bB kb (bB a2 X));clear hK K hb kb a2 X;refine vS ?_
 refine vZ ?_
 refine jgr _ rfl vY rfl (fun wc hc K hK=>?_)
 obtain⟨hb,a2,X⟩:=HS.o
 have H:=HB.o.keeps (F:=fun _=>False) (hb) (fun _ _ e=>e);have kc:jad (Q (jao p)) wb wc:=X.trans (hc.mono (fun _ _ e=>e.elim));have a9:PaAt (PA.leaf (jbs p) u) v2 (Grow (Q (jao p)) wb wc) wc:=(a2.keeps hc _ _ _ (fun _ _ e=>e)).mono (fun z J=>J.imp id (fun e=>⟨e.1,bP e.2 hc.size⟩))
 obtain⟨T2,x2,rfl⟩:=a9.form rfl
 have ht:=H.turn E.o kc a9;have a7:=H.turn_keeps E.o kc (.iface T2 x2)
 obtain⟨old,q7⟩:∃ v,wc.cell? ⟨b,1+jao p,none⟩=some v:=⟨_,(H.blk.keeps kc (H.kid _ E.o).2.1).cellL (bA (by rw[jgM];have:=E.o;omega))⟩
 have f7:wc.frozen? ⟨b,1+jao p,none⟩=false:=(H.blk.keeps kc (H.kid _ E.o).2.1).frozen;have HT:=Hd (bB ht (bB a7 hb));rw[a8.o]at q7 f7;clear hb a2 X H kc a9 ht a7 hc;go_simp;refine hK _ _ ?_;clear hK K q7 f7;go_wp2_with fail
 go_ret
 obtain⟨ht,a7,hb⟩:=HT.o
 rw[<-a8.o];have a6:=b8.o
 refine⟨rfl,PaTo.mk1 (PaAt.mono (fun z J=>?_) (by rw[<-a6];exact ht.pa.at')) ((b5.o.trans (hb.mono (fun _ _ e=>e.elim))).trans (a7.mono (fun z _ J=>b4.o z J)))⟩
 rcases J with J | J
 ·exact .inl (b4.o z J)
 ·exact .inr ⟨bL (bL b5.o.size hb.size) J.1,bP J.2 (jad.oneSet wc ⟨b,1+jao p,none⟩ (.iface T2 x2)).size⟩
end
section
attribute [local go_sem] Oper.semAt_some
def AddP(D:Nat->Prop)(W:vW)(b:Nat)(P:PA)(e:Ending)(w':vW):Prop:=e=.returned (brV b)/\PaAt P (brV b) (Grow D W w') w'/\jad D W w'
theorem jjP(W:vW)(D:Nat->Prop)(v:vB)(ks:Nat->PA)(b:Nat)(h:PaO (.br v ks) (brV b) D W)(p u:vB)(hp:jaM p=true)(hs:p.size<=900000)(hf:∀ x t,p.data.toList=x :: t->(ks x.toNat).isNil=true) :
  vQ 264 #[.pointer (some ⟨b,0,none⟩),.string p,.string u] W (AddP D W b (addK (.br v ks) p u)):=by
 rw[jcI]
 by_cases h0:p.size=0
 ·rw[if_pos h0,jbo h0]
  refine (jnu W D v u ks b h).mono ?_;rintro e w' ⟨rfl,E,e,o,q⟩;injection e with e;subst e
  exact⟨rfl,o,q⟩
 ·rw[if_neg h0]
  obtain⟨x,t,z⟩:=jcd h0
  refine (jnt W D v u ks b h p h0 hp hs (by rw[(jbE z).1];exact hf x t z)).mono ?_;rintro e w' ⟨rfl,E,e,o,q⟩;injection e with e;subst e
  exact⟨rfl,o,q⟩
theorem ju6{W:vW}{b:Nat}(h:Blk W b (.cells #[.string ⟨#[]⟩,.nilIface,.nilIface,.nilIface,.nilIface,.nilIface,.nilIface,.nilIface,.nilIface,.nilIface,.nilIface,.nilIface,.nilIface,.nilIface,.nilIface,.nilIface,.nilIface] 242)) :
  BrAt ⟨#[]⟩ (fun _=>.nil) b (fun _=>.nilIface) (fun _ _=>False) (fun x=>x=b) W:=
 ⟨rfl,h,fun i _=>⟨rfl,fun e=>e,fun _ e=>e.elim⟩,fun _ _ _ _ _ _ e=>e.elim,fun x e=>by rw[e];exact h.lt⟩
theorem AddP.br{D:Nat->Prop}{W w':vW}{b:Nat}{P:PA}(h:PaAt P (brV b) (Grow D W w') w')(k:jad D W w')(hl:∀ x,D x->x < W.heap.size):PaO P (brV b) (Grow D W w') w':=⟨h,jey hl k⟩
theorem jrF(W:vW)(D:Nat->Prop)(q v u:vB)(b:Nat)(o:Blk W b (.cells #[.string q,.string v] 235)):vQ 263 #[.pointer (some ⟨b,0,none⟩),.string q,.string u] W (PaTo D W (.leaf q u)):=by
 have E:=o.cell (i:=0) (v:=.string q) vF;clear o;have z:(q.toList == q.toList)=true:=by simp
 go_enter Tryz.func263,Tryz.ntmps263;go_wp2_with fail
 go_ret;have o:=Blk.new W (.cells #[.string q,.string u] 235);exact PaTo.mk1 ⟨_,rfl,.inr ⟨bM _,o.lt⟩,o⟩ (((ExtR W).alloc _).mono (fun _ _ e=>e.elim))
theorem juU(q p v:vB):(∀ x t,(q.extract (jap q p) q.size).data.toList=x :: t->PA.isNil ((fun _=>PA.nil) x.toNat)=true)/\∃ v1 ks1,addK (.br ⟨#[]⟩ fun _=>.nil) (q.extract (jap q p) q.size) v=.br v1 ks1/\∀ x t,(p.extract (jap q p) p.size).data.toList=x :: t->(ks1 x.toNat).isNil=true:=by
 refine⟨fun _ _ _=>rfl,?_⟩
 obtain⟨K,O,ha,hb,o,z,E⟩:=jcB q.data.toList p.data.toList
 have e:(q.extract (jap q p) q.size).data.toList=K:=by rw[jdG,o];rfl
 have H:(p.extract (jap q p) p.size).data.toList=O:=by rw[jdG,z];rfl
 obtain⟨Q,X⟩:∃ x,x=q.extract (jap q p) q.size:=⟨_,rfl⟩
 rw[<-X]at e ⊢;rw[jcI]
 by_cases h0:Q.size=0
 ·rw[if_pos h0];exact⟨_,_,rfl,fun _ _ _=>rfl⟩
 ·rw[if_neg h0]
  refine⟨_,_,rfl,fun y t Z=>?_⟩
  obtain⟨x,s,J⟩:=jcd h0
  unfold setK;rw[(jbE J).1,if_neg (jc6 (Ne.symm (E x s y t (by rw[<-e,J]) (by rw[<-H,Z]))))];rfl
theorem jpD(W:vW)(D:Nat->Prop)(q v p u:vB)(b:Nat)(hB:Blk W b (.cells #[.string q,.string v] 235))(hne:p≠q)(hq:jaM q=true)(hp:jaM p=true)(hqs:q.size<=900000)(hps:p.size<=900000) :
  vQ 263 #[.pointer (some ⟨b,0,none⟩),.string p,.string u] W (PaTo D W (putP (.leaf q v) p u)):=by
 have q0:=hB.cell (i:=0) (v:=.string q) vF;have Q0:=Hd q0;have Q1:=Hd (hB.cell (i:=1) (v:=.string v) vF);have HB:=Hd hB;have d4:(p.toList == q.toList)=false:=by rw[jdr];exact decide_eq_false hne
 obtain⟨c1,c2⟩:=jeR q p
 have X:putP (.leaf q v) p u=jb8 (p.extract 0 (jap q p)) (addK (addK (.br ⟨#[]⟩ fun _=>.nil) (q.extract (jap q p) q.size) v) (p.extract (jap q p) p.size) u):=by
  show (if p=q then PA.leaf p u else _)=_;rw[if_neg hne]
 have Z:=juU q p v;have a0:=fun w=>jfn w q p vO vO
 obtain⟨m,hm⟩:=vE (jap q p)
 rw[<-hm]at c1 c2 X Z a0;rw[X];have b1:(q.extract m q.size).size<=900000:=by rw[jaZ];omega
 have b2:(p.extract m p.size).size<=900000:=by rw[jaZ];omega
 have b3:(p.extract 0 m).size<=900000:=by rw[dC];omega
 have b4:jaM (q.extract m q.size)=true:=jbl hq _ _;have b5:jaM (p.extract m p.size)=true:=jbl hp _ _
 obtain⟨H,v1,a2,e1,J⟩:=Z
 have b6:Dp (addK (.br v1 a2) (p.extract m p.size) u) 1000000:=jh4 (by rw[<-e1];exact jh4 (jhy _ _) vO _) vO _;have b7:(addK (.br v1 a2) (p.extract m p.size) u).isNil=false:=by rw[jcI];split <;> rfl
 rw[e1];have HF:=Hd (bB (bB H (bB e1 J)) (bB b1 (bB b2 (bB b3 (bB b4 b5)))));have b8:=Hd (bB b6 b7);have HC:=Hd a0;have d5:(m:Int)<=(q.size:Int):=vO
 have d6:(m:Int)<=(p.size:Int):=vO
 clear hB hne hq hp X hm H J e1 b6 b7 b1 b2 b3 b4 b5 a0;go_enter Tryz.func263,Tryz.ntmps263;go_wp2_with fail
 refine (HC.o _).mono ?_;rintro e w1 ⟨rfl,n,rfl⟩;go_wp2_with fail
 obtain⟨E,a3⟩:=vE W.heap.size
 obtain⟨W2,a4⟩:=vE ((W.drewN n).alloc (.cells #[.string ⟨#[]⟩,.nilIface,.nilIface,.nilIface,.nilIface,.nilIface,.nilIface,.nilIface,.nilIface,.nilIface,.nilIface,.nilIface,.nilIface,.nilIface,.nilIface,.nilIface,.nilIface] 242))
 have b9:Ext W W2:=by rw[a4];exact ((ExtR W).drewN n).alloc _
 have c0:BrAt ⟨#[]⟩ (fun _=>.nil) E (fun _=>.nilIface) (fun _ _=>False) (fun x=>x=E) W2:=by rw[a4,a3];exact ju6 (Blk.new (W.drewN n) _)
 have c3:W.heap.size<=E:=by rw[a3];exact bM _
 have a5:=Hd b9;have c4:=Hd c0;have a9:=Hd c3;have c5:=Hd (show ¬ W.heap.size<=b from by have:=HB.o.lt;omega);rw[<-a4, <-a3];clear a3 a4 b9 c0 c3;refine ja4 [0,1,2,3,4,5,6,7,8,9,10,11] [11] Ext (jad (fun z=>W.heap.size<=z)) ExtR ExtT (fun x y z h k=>jad.trans h k) (fun x y h=>h.mono (fun _ _ h=>h.elim)) vY vY vY ?_;iterate 2 refine vD ?_
 refine qDV _ ((.pointer (some ⟨b,0,none⟩))) rfl (fun w1 _=>by kernel_rfl) ?_;refine vS ?_
 refine vD ?_
 refine qDL ⟨b,0,none⟩ _ rfl (fun w1 h1=>jas (fun w=>by kernel_rfl) (jaD (jaa Q0.o a5.o) (((jad.refl (fun z=>W.heap.size<=z) W2).drew).trans h1) (by exact c5.o))) ?_;refine vS ?_;iterate 3 refine vD ?_
 refine qDV _ ((.pointer (some ⟨b,0,none⟩))) rfl (fun w1 _=>by kernel_rfl) ?_;refine vS ?_
 refine vD ?_
 refine qDL ⟨b,1,none⟩ _ rfl (fun w1 h1=>jas (fun w=>by kernel_rfl) (jaD (jaa Q1.o a5.o) (((jad.refl (fun z=>W.heap.size<=z) W2).drew).trans h1) (by exact c5.o))) ?_;refine vS ?_;refine qDH _ rfl (fun wb hb K hK=>?_);have kb:Ext W2 wb:=(jaj _).trans hb
 obtain⟨H,e1,J⟩:=HF.o.1
 refine jbD (jaB (vX 264) vY) ((jjP wb (fun x=>x=E) ⟨#[]⟩ (fun _=>.nil) E ((c4.o.keeps kb (fun _ _ e=>e)).pa) (q.extract m q.size) v HF.o.2.2.2.2.1 HF.o.2.1 H).mono ?_);rintro e w3 ⟨rfl,O,Q⟩
 refine⟨_,rfl,hK _ _ (Q.mono (fun z _ e=>by have e:z=E:=e;rw[e];exact a9.o)) ?_⟩
 rw[e1]at O;have HS:=Hd (bB kb (bB O Q));clear hK K hb kb O Q e1;refine vS ?_;refine jck vY (fun wc hc=>?_)
 obtain⟨kb,O,Q⟩:=HS.o
 have kc:jad (fun x=>x=E) wb wc:=Q.trans (hc.mono (fun _ _ e=>e.elim));have c6:PaAt (.br v1 a2) (brV E) (Grow (fun x=>x=E) wb wc) wc:=(O.keeps hc _ _ _ (fun _ _ e=>e)).mono (fun z hz=>hz.imp id (fun e=>⟨e.1,bP e.2 hc.size⟩));have c7:=AddP.br c6 kc (fun x e=>by have e:x=E:=e;rw[e];exact bP c4.o.blk.lt kb.size);have c8:Ext W wc:=(a5.o.trans kb).trans' kc (fun x hx e=>by have e:x=E:=e;have:=a9.o;omega);have a6:=Hd (bB c7 c8);have c9:Hid (∀ x,Grow (fun x=>x=E) wb wc x->W.heap.size<=x):=(fun x hx=>hx.elim (fun e=>by rw[e];exact a9.o) (fun e=>bL (bL a5.o.size kb.size) e.1));clear hc kb O Q kc c6 c7 c8 HS;go_wp2_with fail
 obtain⟨H,e1,J⟩:=HF.o.1
 refine (jjP wc _ v1 a2 E a6.o.1 (p.extract m p.size) u HF.o.2.2.2.2.2 HF.o.2.2.1 J).mono ?_;rintro e w4 ⟨rfl,d0,b0⟩;have d1:=AddP.br d0 b0 a6.o.1.lt;have d2:Ext W w4:=a6.o.2.trans' b0 (fun x hx e=>by have:=c9.o x e;omega);have d3:Hid (∀ x,Grow (Grow (fun x=>x=E) wb wc) wc w4 x->W.heap.size<=x):=fun x hx=>hx.elim (c9.o x) (fun e=>bL a6.o.2.size e.1);have a7:=Hd (bB d1 d2);clear d0 b0 d1 d2 e1 H J;unfold brV;go_wp2_with fail
 refine (pj_c w4 _ (p.extract 0 m) _ (brV E) a7.o.1 b8.o.2 (by have:=HF.o.2.2.2.1;omega) b8.o.1).mono ?_;rintro e w5 ⟨v5,rfl,a8,a1⟩;have HZ:=Hd (bB a8 a1);clear a8 a1;go_wp2_with fail
 go_ret
 obtain⟨a8,a1⟩:=HZ.o
 exact PaTo.mk1 (a8.mono (fun x hx=>.inr ⟨hx.elim (d3.o x) (fun e=>bL a7.o.2.size e.1),(jey a7.o.1.lt a1) x hx⟩)) ((a7.o.2.trans a1).mono (fun _ _ e=>e.elim))
theorem BrAt.give{u:vB}{ks:Nat->PA}{b:Nat}{vk:Nat->vV}{Dk:Nat->Nat->Prop}{D E:Nat->Prop}{W:vW}(h:BrAt u ks b vk Dk D W){i:Nat}(hi:i < 16){P:PA}{v:vV}(hP:PaAt P v E W)(hE:∀ x,E x->¬ D x/\x < W.heap.size) :
  BrAt u (setK ks i P) b (setV vk i v) (fun j=>if j=i then E else Dk j) (fun x=>D x\/E x) (W.setCell ⟨b,1+i,none⟩ v):=by
 have K:=jad.oneSet W ⟨b,1+i,none⟩ v;have Q:=h.blk.set_same (i:=1+i) v;rw[jqt u vk hi]at Q
 refine⟨.inl h.mem,Q,fun j q=>?_,fun j l q X H x o z=>?_,fun x o=>?_⟩
 ·by_cases e:j=i
  ·subst e
   simp only[if_pos,jcc];rw[show setV vk j v j=v from if_pos rfl]
   refine⟨hP.keeps K _ _ _ (fun x o e=>?_),fun e=>(hE b e).1 h.mem,fun x o=>.inr o⟩
   have e:x=b:=e;rw[e]at o;exact (hE b o).1 h.mem
  ·simp only[if_neg e]
   rw[jeG _ _ e,show setV vk i v j=vk j from if_neg e]
   refine⟨(h.kid j q).1.keeps K _ _ _ (fun x o e=>?_),(h.kid j q).2.1,fun x o=>.inl ((h.kid j q).2.2 x o)⟩
   have e:x=b:=e;rw[e]at o;exact (h.kid j q).2.1 o
 ·by_cases e:j=i
  ·subst e
   have O:E x:=by simpa using o
   have J:Dk l x:=by simpa [Ne.symm H]using z
   exact (hE x O).1 ((h.kid l X).2.2 x J)
  ·have O:Dk j x:=by simpa [e]using o
   by_cases e2:l=i
   ·subst e2
    have J:E x:=by simpa using z
    exact (hE x J).1 ((h.kid j q).2.2 x O)
   ·have J:Dk l x:=by simpa [e2]using z
    exact h.apart j l q X H x O J
 ·rcases o with o | o
  ·exact bP (h.lt x o) K.size
  ·exact bP (hE x o).2 K.size
theorem jwh{q:vB}{m:Nat}(h:m < q.size):jao (q.extract m q.size)=(q[m]).toNat:=by
 unfold jao;have e:m < q.data.toList.length:=by rw[jaO];exact h
 rw[jdG,iI e];rfl
theorem jv5(W:vW)(D:Nat->Prop)(q:vB)(n:PA)(T:TypeId)(x:vV)(Dn:Nat->Prop)(b:Nat)(hB:Blk W b (.cells #[.string q,.iface T x] 238))(hv:PaAt n (.iface T x) Dn W)(hbn:¬ Dn b)(hD:∀ x,Dn x->D x/\x < W.heap.size)(p u:vB)(hq:jaM q=true)(hp:jaM p=true)(hqs:q.size<=900000)(hps:p.size<=900000)(Z:Dp n 900000)(hk:PutC n)(hnil:n.isNil=false)(hf:jap q p=q.size) :
  vQ 269 #[.pointer (some ⟨b,0,none⟩),.string p,.string u] W (PaTo D W (jb8 q (putP n (p.extract q.size p.size) u))):=by
 have q0:=hB.cell (i:=0) (v:=.string q) vF;have q1:=hB.cell (i:=1) (v:=.iface T x) vF;have Q0:=Hd q0;have Q1:=Hd q1;have HB:=Hd hB;have HV:=Hd hv;have HD:Hid (∀ z,Dn z->D z/\z < W.heap.size):=hD
 obtain⟨c1,c2⟩:=jeR q p
 have O:=fun w=>jfn w q p vO vO;rw[hf]at c1 c2 O;have HC:=Hd O;have a9:=hB.lt;have a5:=Hd (show ¬(Dn b\/W.heap.size<=b)from fun e=>e.elim hbn (fun e=>by omega));have a1:jaM (p.extract q.size p.size)=true:=jbl hp _ _;have a3:(p.extract q.size p.size).size<=900000:=by rw[jaZ];omega
 have HM:=Hd hv.meth;have a0:=Hd (show ∀ Q,Ext W Q->vQ (jkg n) #[x,.string (p.extract q.size p.size),.string u] Q (PaTo Dn Q (putP n (p.extract q.size p.size) u))from fun Q e=>hk Q T x Dn _ _ ⟨hv.keeps e _ _ _ (fun _ _ e=>e),fun z E=>bP (hD z E).2 e.size⟩ a3 a1 Z);have b0:Hid (Dp (putP n (p.extract q.size p.size) u) 1000000):=(jb7 _ _ _ (jnI n 900000 _ u Z a3) vO);have b2:(q.size:Int)<=(p.size:Int):=vO
 have b3:((q.size:Int) ==(q.size:Int))=true:=by simp
 clear hB hv hbn hD hq hp Z hk hf a1 a3 O a9;go_enter Tryz.func269,Tryz.ntmps269;go_wp2_with fail
 refine (HC.o _).mono ?_;rintro e w1 ⟨rfl,k,rfl⟩;have a6:=Hd (show jad (fun z=>Dn z\/W.heap.size<=z) W ((W.drewN k).drew)from((jad.refl _ W).drewN k).drew);go_wp2_with fail
 refine ja4 [0,1,2,3,4,5,6,7,8,9,10,11,12,13,14,15,16] [14,15] Ext (jad (fun z=>Dn z\/W.heap.size<=z)) ExtR ExtT (fun x y z h k=>jad.trans h k) (fun x y h=>h.mono (fun _ _ h=>h.elim)) vY vY vY ?_
 refine vD ?_
 refine qDV _ ((.pointer (some ⟨b,0,none⟩))) rfl (fun w1 _=>by kernel_rfl) ?_;refine vS ?_
 refine vD ?_
 refine qDL ⟨b,0,none⟩ _ rfl (fun w1 h1=>jas (fun w=>by kernel_rfl) (jaD Q0.o (a6.o.trans h1) (by exact a5.o))) ?_;refine vS ?_
 refine vD ?_
 refine qDV _ ((.pointer (some ⟨b,0,none⟩))) rfl (fun w1 _=>by kernel_rfl) ?_;refine vS ?_
 refine vD ?_
 refine qDL ⟨b,1,none⟩ _ rfl (fun w1 h1=>jas (fun w=>by kernel_rfl) (jaD Q1.o (a6.o.trans h1) (by exact a5.o))) ?_;refine vS ?_;iterate 4 refine vD ?_
 refine qDV _ (.iface T x) rfl (fun w1 _=>by kernel_rfl) ?_;refine vS ?_
 refine vD ?_
 refine qDH _ rfl (fun Q hb K hK=>?_);have kb:Ext W Q:=(((ExtR W).drewN k).drew).trans hb;refine jbD (jcz (f:=jkg n) (vs:=#[.string (p.extract q.size p.size),.string u]) rfl (HM.o.put _) (jh9 _) vY) ?_;refine (a0.o Q kb).mono ?_;rintro e w2 ⟨v2,rfl,X,H⟩
 refine⟨v2,rfl,hK _ _ (H.mono (fun z _ E=>.inl E)) ?_⟩
 have HS:=Hd (bB kb (bB X H));clear hK K hb kb X H;refine vS ?_;refine qDH _ rfl (fun wc hc K hK=>?_)
 obtain⟨kb,X,H⟩:=HS.o
 have kc:jad Dn Q wc:=H.trans (hc.mono (fun _ _ e=>e.elim));have a7:PaAt (putP n (p.extract q.size p.size) u) v2 (Grow Dn Q wc) wc:=(X.keeps hc _ _ _ (fun _ _ e=>e)).mono (fun z E=>E.imp id (fun e=>⟨e.1,bP e.2 hc.size⟩));have a4:=PaTo.own a7 kc (fun z E=>bP (HD.o z E).2 kb.size);refine jbD (jaB (vX 265) vY) ((pj_c wc _ q _ v2 a4 (jix _ _ _) vO b0.o).mono ?_);rintro e w5 ⟨v5,rfl,a2,J⟩
 refine⟨v5,rfl,hK _ _ (J.mono (fun _ _ e=>e.elim)) ?_⟩
 have HZ:=Hd (bB kc (bB a2 (bB J (jey a4.lt J))));clear hK K hc kb X H kc a7 a4 a2 J;refine vS ?_
 refine vD ?_
 refine jck vY (fun wd Z=>?_);have HQ:=Hd Z;clear Z;go_wp2_with fail
 go_ret
 obtain⟨kb,_,_⟩:=HS.o
 obtain⟨kc,a2,J,b1⟩:=HZ.o
 have Z:=HQ.o;refine PaTo.mk1 ((a2.keeps Z _ _ _ (fun _ _ e=>e)).mono (fun z E=>?_)) (((kb.mono (fun _ _ e=>e.elim):jad D W Q).trans (kc.mono (fun z _ E=>(HD.o z E).1))).trans ((J.trans Z).mono (fun _ _ e=>e.elim)));have a8:=bP (b1 z E) Z.size;rcases E with (E | E) | E
 ·exact .inl (HD.o z E).1
 ·exact .inr ⟨bL kb.size E.1,a8⟩
 ·exact .inr ⟨bL (bL kb.size kc.size) E.1,a8⟩
theorem jtP(q p:vB)(n:PA)(h:jap q p < q.size):∀ x t,(p.extract (jap q p) p.size).data.toList=x :: t->(setK (fun _=>.nil) (jao (q.extract (jap q p) q.size)) (jb8 (q.extract (jap q p+1) q.size) n) x.toNat).isNil=true:=by
 obtain⟨K,O,Z,hb,e,o,z⟩:=jcB q.data.toList p.data.toList
 have E:(q.extract (jap q p) q.size).data.toList=K:=by rw[jdG,e];rfl
 have H:(p.extract (jap q p) p.size).data.toList=O:=by rw[jdG,o];rfl
 have Q:(q.extract (jap q p) q.size).size≠0:=by rw[jaZ];omega
 intro y t X
 obtain⟨x,s,J⟩:=jcd Q
 unfold setK;rw[(jbE J).1,if_neg (jc6 (Ne.symm (z x s y t (by rw[<-E,J]) (by rw[<-H,X]))))];rfl
theorem jtN(W:vW)(D:Nat->Prop)(q:vB)(n:PA)(T:TypeId)(x:vV)(Dn:Nat->Prop)(b:Nat)(hB:Blk W b (.cells #[.string q,.iface T x] 238))(hv:PaAt n (.iface T x) Dn W)(hbn:¬ Dn b)(hD:∀ x,Dn x->D x/\x < W.heap.size)(p u:vB)(hq:jaM q=true)(hp:jaM p=true)(hqs:q.size<=900000)(hps:p.size<=900000)(hd:Dp n (900000 - q.size))(hnil:n.isNil=false)(hf:jap q p≠q.size) :
  vQ 269 #[.pointer (some ⟨b,0,none⟩),.string p,.string u] W (PaTo D W (jb8 (p.extract 0 (jap q p)) (addK (.br ⟨#[]⟩ (setK (fun _=>.nil) (jao (q.extract (jap q p) q.size)) (jb8 (q.extract (jap q p+1) q.size) n))) (p.extract (jap q p) p.size) u))):=by
 have q0:=hB.cell (i:=0) (v:=.string q) vF;have q1:=hB.cell (i:=1) (v:=.iface T x) vF;have Q0:=Hd q0;have Q1:=Hd q1;have HB:=Hd hB;have HV:=Hd hv;have HD:Hid (∀ z,Dn z->D z/\z < W.heap.size):=hD
 obtain⟨c1,c2⟩:=jeR q p
 have Z:=fun w=>jfn w q p vO vO;have J:=jtP q p n (show jap q p < q.size by omega)
 obtain⟨m,hm⟩:=vE (jap q p)
 rw[<-hm]at c1 c2 Z hf J ⊢;have HC:=Hd Z;have d5:=hB.lt;have b3:=Hd (show ¬ W.heap.size<=b from by omega);have b9:m < q.size:=vO
 have c0:jao (q.extract m q.size) < 16:=jdJ (jbl hq _ _) (by rw[jaZ];omega);have b4:=jwh b9;have b5:=Hd (bB c0 b4);have c3:=Hd (bB (jbl hp m p.size) (show (p.extract m p.size).size<=900000 by rw[jaZ];omega));have a6:=Hd (bB hnil (bB (show (q.extract (m+1) q.size).size<=900000 by rw[jaZ];omega) hd));have c4:Dp (jb8 (q.extract (m+1) q.size) n) (900000 - m - 1):=jfS (jb7 _ _ _ hd (by rw[jaZ];omega)) (by rw[jaZ];omega);have c5:Dp (addK (.br ⟨#[]⟩ (setK (fun _=>.nil) (jao (q.extract m q.size)) (jb8 (q.extract (m+1) q.size) n))) (p.extract m p.size) u) (900000 - m):=jh4 (jh6 (jhy ⟨#[]⟩ _) vO c4 _) (by rw[jaZ];omega) _;have c6:(addK (.br ⟨#[]⟩ (setK (fun _=>.nil) (jao (q.extract m q.size)) (jb8 (q.extract (m+1) q.size) n))) (p.extract m p.size) u).isNil=false:=by rw[jcI];split <;> rfl
 have c7:=Hd (bB c5 c6);have d6:=Hd J;have a4:(p.extract 0 m).size<=900000:=by rw[dC];omega
 have d7:=Hd a4;have d8:(m:Int)<=(q.size:Int):=vO
 have d9:(m:Int)<=(p.size:Int):=vO
 have e0:(m:Int) < (q.size:Int):=vO
 have e1:(m:Int)+1<=(q.size:Int):=vO
 have e2:((q[m]'b9).toNat:Int) < 16:=by rw[<-b4];omega
 have e3:((m:Int) ==(q.size:Int))=false:=by simp;omega
 clear hB hv hbn hD hq hp hd hf Z d5 J c0 b4 c4 c5 c6 hnil hm a4;go_enter Tryz.func269,Tryz.ntmps269;go_wp2_with fail
 refine (HC.o _).mono ?_;rintro e w1 ⟨rfl,k,rfl⟩;go_wp2_with fail
 obtain⟨H,a7⟩:=vE W.heap.size
 obtain⟨W2,a8⟩:=vE ((W.drewN k).alloc (.cells #[.string ⟨#[]⟩,.nilIface,.nilIface,.nilIface,.nilIface,.nilIface,.nilIface,.nilIface,.nilIface,.nilIface,.nilIface,.nilIface,.nilIface,.nilIface,.nilIface,.nilIface,.nilIface] 242))
 have c8:Ext W W2:=by rw[a8];exact ((ExtR W).drewN k).alloc _
 have c9:BrAt ⟨#[]⟩ (fun _=>.nil) H (fun _=>.nilIface) (fun _ _=>False) (fun x=>x=H) W2:=by rw[a8,a7];exact ju6 (Blk.new (W.drewN k) _)
 have d0:W.heap.size<=H:=by rw[a7];exact bM _
 have O:=Hd c8;have a9:=Hd c9;have b0:=Hd d0;rw[<-a8, <-a7];clear a7 a8 c8 c9 d0;refine ja4 [0,1,2,3,4,5,6,7,8,9,10,11,12,13,14,15,16,17,19,20,18,21,22] [18,22] Ext (jad (fun z=>W.heap.size<=z)) ExtR ExtT (fun x y z h k=>jad.trans h k) (fun x y h=>h.mono (fun _ _ h=>h.elim)) vY vY vY ?_;iterate 2 refine vD ?_
 refine qDV _ ((.pointer (some ⟨b,0,none⟩))) rfl (fun w1 _=>by kernel_rfl) ?_;refine vS ?_
 refine vD ?_
 refine qDL ⟨b,0,none⟩ _ rfl (fun w1 h1=>jas (fun w=>by kernel_rfl) (jaD (jaa Q0.o O.o) (((jad.refl (fun z=>W.heap.size<=z) W2).drew).trans h1) (by exact b3.o))) ?_;refine vS ?_;iterate 3 refine vD ?_
 refine qDV _ ((.pointer (some ⟨b,0,none⟩))) rfl (fun w1 _=>by kernel_rfl) ?_;refine vS ?_
 refine vD ?_
 refine qDL ⟨b,0,none⟩ _ rfl (fun w1 h1=>jas (fun w=>by kernel_rfl) (jaD (jaa Q0.o O.o) (((jad.refl (fun z=>W.heap.size<=z) W2).drew).trans h1) (by exact b3.o))) ?_;refine vS ?_;iterate 4 refine vD ?_
 refine qDV _ ((.pointer (some ⟨b,0,none⟩))) rfl (fun w1 _=>by kernel_rfl) ?_;refine vS ?_
 refine vD ?_
 refine qDL ⟨b,1,none⟩ _ rfl (fun w1 h1=>jas (fun w=>by kernel_rfl) (jaD (jaa Q1.o O.o) (((jad.refl (fun z=>W.heap.size<=z) W2).drew).trans h1) (by exact b3.o))) ?_;refine vS ?_;refine qDV _ ((.pointer (some ⟨H,0,none⟩))) rfl (fun w1 _=>by kernel_rfl) ?_;refine vS ?_
 refine vD ?_
 refine qDH _ rfl (fun wb hb K hK=>?_);have kb:Ext W2 wb:=(jaj _).trans hb;have kw:Ext W wb:=O.o.trans kb;refine jbD (jaB (vX 265) vY) ((pj_c wb Dn (q.extract (m+1) q.size) n (.iface T x) ⟨HV.o.keeps kw _ _ _ (fun _ _ e=>e),fun z E=>bP (HD.o z E).2 kw.size⟩ a6.o.1 (by have:=a6.o.2.1;omega) (jb7 _ _ _ a6.o.2.2 vO)).mono ?_);rintro e w3 ⟨v3,rfl,a0,Q⟩
 refine⟨v3,rfl,hK _ _ (Q.mono (fun _ _ e=>e.elim)) ?_⟩
 have HS:=Hd (bB kb (bB a0 Q));clear hK K hb kb a0 Q kw;refine vS ?_
 refine vD ?_
 refine qDH _ rfl (fun wc hc K hK=>?_)
 obtain⟨kb,a0,Q⟩:=HS.o
 have b6:=a0.keeps hc _ _ _ (fun _ _ e=>e);have kc:Ext W2 wc:=(kb.trans Q).trans hc
 obtain⟨T3,x3,rfl⟩:=b6.form (jdy a6.o.1)
 have a1:∀ z,Grow Dn wb w3 z->¬ z=H/\z < wc.heap.size:=fun z E=>by
  have h1:=a9.o.lt H rfl;have h2:=b0.o;have h3:=kb.size;have h4:=Q.size;have h5:=hc.size;have h6:=O.o.size;rcases E with E | E
  ·have:=(HD.o z E).2;omega
  ·have:=E.1;have:=E.2;omega
 have hg:=(a9.o.keeps kc (fun _ _ e=>e)).give b5.o.1 b6 a1
 obtain⟨old,q7⟩:∃ v,wc.cell? ⟨H,1+jao (q.extract m q.size),none⟩=some v:=⟨_,(a9.o.keeps kc (fun _ _ e=>e)).blk.cellL (bA (by rw[jgM];have:=b5.o.1;omega))⟩
 have f7:wc.frozen? ⟨H,1+jao (q.extract m q.size),none⟩=false:=(a9.o.keeps kc (fun _ _ e=>e)).blk.frozen
 obtain⟨WW,a2⟩:=vE (wc.setCell ⟨H,1+jao (q.extract m q.size),none⟩ (.iface T3 x3))
 rw[<-a2]at hg;have X:jad (fun z=>z=H) wc WW:=by rw[a2];exact jad.oneSet wc ⟨H,1+jao (q.extract m q.size),none⟩ (.iface T3 x3)
 have HG:=Hd (bB hg (bB X (bB kc (bB a1 (show ∀ z,Grow Dn wb w3 z->D z\/W.heap.size<=z from fun z E=>E.elim (fun e=>.inl (HD.o z e).1) (fun e=>.inr (bL (bL O.o.size kb.size) e.1)))))));rw[b5.o.2]at q7 f7 a2;clear kb a0 Q b6 kc a1 hg hc;go_simp;rw[<-a2];refine hK _ _ (X.mono (fun z _ e=>by have e:z=H:=e;rw[e];exact b0.o)) ?_;clear hK K q7 f7 a2 X;refine jck vY (fun wd hd=>?_)
 obtain⟨hg,X,kc,a1,d1⟩:=HG.o
 have d2:=hg.keeps hd (fun _ _ e=>e);have HX:=Hd (bB d2 (show Ext W wd from((O.o.trans kc).trans' X (fun z E e=>by have e:z=H:=e;have:=b0.o;omega)).trans hd));have HY:Hid (∀ z,(z=H\/Grow Dn wb w3 z)->D z\/W.heap.size<=z):=(fun z E=>E.elim (fun e=>.inr (by rw[e];exact b0.o)) (d1 z));clear hg X kc a1 d1 d2 hd;go_wp2_with fail
 refine (jjP wd _ ⟨#[]⟩ _ H HX.o.1.pa (p.extract m p.size) u c3.o.1 c3.o.2 d6.o).mono ?_;rintro e w4 ⟨rfl,d3,b7⟩;have d4:=AddP.br d3 b7 HX.o.1.lt;have a5:jad D W w4:=(HX.o.2.mono (fun _ _ e=>e.elim)).trans' b7 (fun z E e=>by
  rcases HY.o z e with h | h
  ·exact h
  ·omega)
 have b1:=Hd (bB d4 a5);clear d3 b7 d4 a5;unfold brV;go_wp2_with fail
 refine (pj_c w4 _ (p.extract 0 m) _ (brV H) b1.o.1 c7.o.2 (by have:=d7.o;omega) (jb7 _ _ _ c7.o.1 vO)).mono ?_;rintro e w5 ⟨v5,rfl,b2,a3⟩;have HZ:=Hd (bB b2 a3);clear b2 a3;go_wp2_with fail
 go_ret
 obtain⟨b2,a3⟩:=HZ.o
 refine PaTo.mk1 (b2.mono (fun z E=>?_)) (b1.o.2.trans (a3.mono (fun _ _ e=>e.elim)));have b8:=jey b1.o.1.lt a3 z E;rcases E with (E | E) | E
 ·rcases HY.o z E with h | h
  ·exact .inl h
  ·exact .inr ⟨h,b8⟩
 ·exact .inr ⟨bL HX.o.2.size E.1,b8⟩
 ·exact .inr ⟨bL b1.o.2.size E.1,b8⟩
end
def VaP:PA->Prop
 | .nil=>True
 | .no=>True
 | .leaf q _=>jaM q=true
 | .ext q n=>jaM q=true/\VaP n
 | .br _ ks=>∀ i,VaP (ks i)
theorem jqB:∀ (P:PA),CanP P->VaP P
 | .nil,h=>h.elim
 | .no,h=>h.elim
 | .leaf q v,h=>h.1
 | .ext q n,h=>⟨h.2.1,jqB n h.2.2.2⟩
 | .br v ks,h=>fun i=>by
  cases hn:(ks i).isNil with
  | true=>rw[jbu hn];trivial
  | false=>exact jqB (ks i) (h.2.1 i hn)
theorem jm5:∀ (P:PA),VaP P->PutC P
 | .nil,_=>fun W T x D p u h _ _ _=>by cases h.at'
 | .no,_=>fun W T x D p u h _ _ _=>by
  have e:Value.iface T x=noV:=h.at';unfold noV at e;injection e with e1 e2;subst e1 e2;exact jr4 W D p u
 | .leaf q v,hv=>fun W T x D p u h H J o=>by
  obtain⟨b,e,h1,K⟩:=h.at'
  unfold jiT at e;injection e with e1 e2;subst e1 e2
  by_cases hpq:p=q
  ·subst hpq
   show Calls _ _ _ W (PaTo D W (putP (.leaf p v) p u));unfold putP;rw[if_pos rfl];exact jrF W D p v u b K
  ·exact jpD W D q v p u b K hpq hv J o H
 | .ext q n,hv=>fun W T x D p u h H J o=>by
  obtain⟨b,T',x',Q,e,h1,K,X,h4,h5⟩:=h.at'
  unfold extV at e;injection e with e1 e2;subst e1 e2;have E:n.isNil=false:=by
   cases n with
   | nil=>cases X
   | _=>rfl
  have O:∀ z,Q z->D z/\z < W.heap.size:=fun z hz=>⟨h5 z hz,h.lt z (h5 z hz)⟩
  by_cases hf:jap q p=q.size
  ·have:=jv5 W D q n T' x' Q b K X h4 O p u hv.1 J o.1 H (jb7 _ _ _ o.2 vO) (jm5 n hv.2) E hf
   show Calls _ _ _ W (PaTo D W (putP (.ext q n) p u));unfold putP;rw[if_pos hf,hf];exact this
  ·have:=jtN W D q n T' x' Q b K X h4 O p u hv.1 J o.1 H o.2 E hf
   show Calls _ _ _ W (PaTo D W (putP (.ext q n) p u));unfold putP;rw[if_neg hf];exact this
 | .br v ks,hv=>fun W T x D p u h H J o=>by
  obtain⟨b,vk,Dk,e,_⟩:=h.at'
  have e0:=e;unfold brV at e;injection e with e1 e2;subst e1 e2;show Calls _ _ _ W (PaTo D W (putP (.br v ks) p u));unfold putP
  by_cases h0:p.size=0
  ·rw[if_pos h0,jbo h0]
   exact (jnu W D v u ks b h).mono fun e w' h=>h.2
  ·rw[if_neg h0]
   cases hk:(ks (jao p)).isNil with
   | true =>
    rw[jbu hk];exact (jnt W D v u ks b h p h0 J H hk).mono fun e w' h=>h.2
   | false =>
    have Z:=o (jao p) hk;exact (jtn W D v u ks b h p h0 J H hk (jb7 _ _ _ Z.2 vO) (jm5 (ks (jao p)) (hv _))).mono fun e w' h=>h.2
def malE:vV:=.iface 28 (.int .i64 2)
def Fa1(W0 W:vW)(v:vV):Prop:=∃ (b:Nat) (k:Int),v=.iface 272 (.pointer (some ⟨b,0,none⟩))/\Blk W b (.cells #[.int .i64 k,malE] 274)/\W0.heap.size<=b
def MalP(w:vW)(e:Ending)(w':vW):Prop:=∃ v,e=.returned v/\Ext w w'/\Fa1 w w' v
theorem jbN(w:vW)(k:Int):vQ 197 #[.int .i64 k] w (MalP w):=by
 go_enter Tryz.func197,Tryz.ntmps197;go_wp2_with fail
 go_ret
 exact⟨_,rfl,(ExtR w).alloc _,_,k,rfl,Blk.new w _,bM _⟩
def jyS(w:vW)(e:Ending)(w':vW):Prop:=∃ v,e=.returned (.tuple #[.int .i64 0,v])/\Ext w w'/\Fa1 w w' v
def jvw(s:vB)(to:Nat)(w:vW)(n i:vV)(wr:vW):Prop:=∃ k:Nat,1<=k/\k<=to/\i=.int .i64 k/\n=.int .i64 (beN ((s.data.toList.take k).drop 1))/\beN ((s.data.toList.take k).drop 1)<=1048576/\wr=w
theorem jly(w:vW)(s:vB)(to:Nat)(hs:s.size<=1000000000)(h2:2<=to)(h9:to<=1000)(h:lenB s to=none):vQ 198 #[.string s,.int .i64 to] w (jyS w):=by
 by_cases hto:s.size < to
 ·have c0:(s.size:Int) < (to:Int):=vO
  clear h;go_enter Tryz.func198,Tryz.ntmps198;go_wp2_with fail
  refine (jbN w s.size).mono ?_;rintro e w1 ⟨v,rfl,q,H⟩
  obtain⟨b,k,rfl,z⟩:=H
  have E:=Hd (bB q z);clear q z;go_wp2_with fail
  go_ret2
  exact⟨_,rfl,E.o.1,b,k,rfl,E.o.2⟩
 have c0:¬(s.size:Int) < (to:Int):=vO
 have c1:(1:Int) < (s.size:Int):=vO
 by_cases hz:(s[1]'(by omega)).toNat=0
 ·have a2:(((s[1]'(by omega)).toNat:Int) == 0)=true:=by simp[hz]
  clear h;go_enter Tryz.func198,Tryz.ntmps198;go_wp2_with fail
  refine (jbN w 1).mono ?_;rintro e w1 ⟨v,rfl,q,H⟩
  obtain⟨b,k,rfl,z⟩:=H
  have E:=Hd (bB q z);clear q z;go_wp2_with fail
  go_ret2
  exact⟨_,rfl,E.o.1,b,k,rfl,E.o.2⟩
 have a2:(((s[1]'(by omega)).toNat:Int) == 0)=false:=by simpa using hz
 have HH:=Hd (show ¬(55 < beN ((s.data.toList.take to).drop 1)/\beN ((s.data.toList.take to).drop 1)<=1048576)from fun hc=>by
  unfold lenB at h;rw[if_neg ?_,if_pos hc]at h
  ·cases h
  ·rintro (Q | Q)
   ·exact hto Q
   ·rw[bH,bA (by simp;omega)]at Q
    have Q:(s[1]'(by omega))=0:=Q;exact hz (by rw[Q];rfl))
 clear h hz;go_enter Tryz.func198,Tryz.ntmps198;go_wp2_with fail
 go_loopw [6,7] (fun m i wr=>jvw s to w m i wr) (fun _ i _=>to - (intOf i).toNat)
 case atStart=>exact⟨1,bM _,by omega,rfl,by simp[beN],by simp[beN],rfl⟩
 case round =>
  obtain⟨k,a3,a6,rfl,rfl,J,rfl⟩:=hrel
  by_cases hlt:k < to
  ·have a4:k < s.size:=vO
   have c2:(k:Int) < (s.size:Int):=vO
   have c3:(k:Int) < (to:Int):=vO
   have X:=jfL s a3 a4
   obtain⟨m,K⟩:=vE (beN ((s.data.toList.take k).drop 1))
   rw[<-K]at J;have Z:=jr9 m s[k] J;have a0:bits BinOp.or .i64 ((m:Int) * 256) (wrap64 (s[k].toNat:Int))=((m * 256+s[k].toNat:Nat):Int):=by
    have hb:=s[k].toNat_lt;rw[<-Z];congr 1;unfold wrap64;omega
   clear Z;have e5:beN ((s.data.toList.take (k+1)).drop 1)=m * 256+s[k].toNat:=by rw[X,jjM, <-K]
   have H5:=Hd e5;rw[<-K];clear K X e5
   obtain⟨m',O⟩:∃ m',m'=m * 256+s[k].toNat:=⟨_,rfl⟩
   rw[<-O]at a0;have a1:=Hd O;clear O
   by_cases hbig:1048576 < m'
   ·have c4:(1048576:Int) < (m':Int):=vO
    go_wp2_with fail
    refine (jbN wr k).mono ?_;rintro e w1 ⟨v,rfl,q,H⟩
    obtain⟨b,kk,rfl,z⟩:=H
    have E:=Hd (bB q z);clear q z;go_wp2_with fail
    go_ret2
    exact⟨_,rfl,E.o.1,b,kk,rfl,E.o.2⟩
   ·have c4:¬(1048576:Int) < (m':Int):=vO
    go_wp2_with fail
    go_roundw
    case rel=>exact⟨k+1,by omega,by omega,by go_num,by rw[H5.o,a1.o],by rw[H5.o, <-a1.o];omega,rfl⟩
    case measure=>exact vJ
  ·have a5:k=to:=vO
   subst a5;have c3:¬(k:Int) < (k:Int):=vO
   obtain⟨m,K⟩:=vE (beN ((s.data.toList.take k).drop 1))
   have hh:=HH.o;rw[<-K]at J hh ⊢;have c4:¬(55:Int) < (m:Int):=vO
   clear K hh;go_wp2_with fail
   refine (jbN wr 1).mono ?_;rintro e w1 ⟨v,rfl,q,H⟩
   obtain⟨b,kk,rfl,z⟩:=H
   have E:=Hd (bB q z);clear q z;go_wp2_with fail
   go_ret2
   exact⟨_,rfl,E.o.1,b,kk,rfl,E.o.2⟩
end Go.Proofs.YtmobgkphhbmhbaaGreatDoor
