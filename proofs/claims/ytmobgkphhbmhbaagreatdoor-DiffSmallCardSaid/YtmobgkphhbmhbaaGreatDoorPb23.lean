/- Lemmas; each is under no condition but those that it states. -/
import Derived.Test.YtmobgkphhbmhbaaGreatDoorPb22
import Derived.Stop.Asserts
namespace Go.Proofs.YtmobgkphhbmhbaaGreatDoor
set_option linter.unusedSimpArgs false
set_option linter.unusedVariables false
set_option maxRecDepth 100000
set_option maxHeartbeats 16000000
open Go Go.RowKit
def jbX(P:PA)(d:Chg):PA:=if d.gone then jbx P (jbv d.key)else putP P (jbv d.key) d.value
def jlE(q:vN)(o:Option vB)(c:Chg):Option vB:=if q=(jbv c.key).data.toList then c.o else o
theorem jsB{P:PA}(hP:P=.no\/CanP P){c:Chg}(hc:c.bad=false):(jbX P c=.no\/CanP (jbX P c))/\∀ q,getL (jbX P c) q=jlE q (getL P q) c:=by
 have z:=jcV c.key;unfold jbX jlE Chg.o;cases hg:c.gone with
 | true =>
  rw[if_pos rfl,if_pos rfl];rcases hP with rfl | hP
  ·refine⟨.inl rfl,fun q=>?_⟩
   show none=if q=_ then none else none
   split <;> rfl
  ·exact jj5 P hP _ z
 | false =>
  rw[if_neg ff,if_neg ff];have A:c.value.size≠0:=by
   unfold Chg.bad at hc;rw[hg]at hc;simp only[Bool.false_and,Bool.or_false,Bool.not_false,Bool.true_and,gM,Bool.not_eq_false']at hc;have E:=hc.2;unfold jcX at E
   have:=of_decide_eq_true E;omega
  have e:CanP P\/P=.no\/P=.nil:=by
   rcases hP with h | h
   ·exact .inr (.inl h)
   ·exact .inl h
  exact⟨.inr (jmI P e _ _ z A),jmU P e _ _ A⟩
theorem jq5:∀ (cs:List Chg) (P:PA),(P=.no\/CanP P)->cs.any Chg.bad=false->(cs.foldl jbX P=.no\/CanP (cs.foldl jbX P))/\∀ q,getL (cs.foldl jbX P) q=cs.foldl (jlE q) (getL P q)
 | [],P,hP,_=>⟨hP,fun _=>rfl⟩
 | c :: cs,P,hP,hb=>by
  rw[List.any_cons,gM]at hb
  obtain⟨e,o⟩:=jsB hP hb.1
  obtain⟨z,A⟩:=jq5 cs _ e hb.2
  refine⟨z,fun q=>?_⟩
  rw[dO,A,o,dO]
theorem jr7{a b:vB}(h:jbv a=jbv b):a=b:=by rw[<-jfu a,h,jfu]
theorem jpy(k:vB):jlE (jbv k).data.toList=jfF k.data.toList:=by
 funext o c
 unfold jlE jfF Chg.o
 by_cases e:k.data.toList=c.key.data.toList
 ·rw[if_pos e,if_pos (by rw[jbW e])]
 ·rw[if_neg e,if_neg (fun h=>e (by rw[jr7 (jbW h)]))]
theorem jjm{q:vN}(h:∀ k,q≠(jbv k).data.toList)(o:Option vB):∀ cs:List Chg,cs.foldl (jlE q) o=o
 | []=>rfl
 | c :: cs=>by
  have e:jlE q o c=o:=by unfold jlE;rw[if_neg (h c.key)]
  rw[dO,e,jjm h o cs]
theorem jkK(k:vB):∀ l:vL,valL l k=look l k.data.toList
 | []=>rfl
 | q :: r=>by
  rw[jaT];show (if q.1=k then some q.2 else valL r k)=_
  by_cases e:q.1=k
  ·rw[if_pos e,if_pos (by rw[<-e])]
  ·rw[if_neg e,if_neg (fun h=>e (jbW h.symm)),jkK k r]
theorem jkw{l:vL}(h:jar 12 l):jaW 13 l=.no\/CanP (jaW 13 l):=by
 by_cases h0:l.length=0
 ·exact .inl (jbR _ h0)
 ·exact .inr (jot 12 l h (fun e=>h0 (by rw[e];rfl))).1
theorem jnV{l m:vL}(hl:jap l=0)(hm:jap m=0){cs:List Chg}(h:jfM l m cs):cs.foldl jbX (jaW 13 (jaP l))=jaW 13 (jaP m):=by
 have o:=jbm (jau hl);have A:=jbm (jau hm)
 obtain⟨E,H⟩:=jq5 cs _ (jkw o) h.fine
 refine jr5 A E fun p J=>?_;rw[H,jkv 12 _ o p J]
 by_cases hk:∃ k,p=jbv k
 ·obtain⟨k,rfl⟩:=hk
  rw[jpy,joT,joT,jkK,jkK];exact h.looks k.data.toList
 ·have K:∀ k,p.data.toList≠(jbv k).data.toList:=fun k e=>hk ⟨k,jbW e⟩
  have z:∀ r:vL,valL (jaP r) p=none:=fun r=>jgG fun q O e=>by
   obtain⟨x,_,rfl⟩:=bH.1 O
   exact hk ⟨x.1,e.symm⟩
  rw[jjm K,z,z]
def Dp:PA->Nat->Prop
 | .nil,_=>True
 | .no,_=>True
 | .leaf q _,n=>q.size<=n
 | .ext q m,n=>q.size<=n/\Dp m (n - q.size)
 | .br _ ks,n=>∀ i,(ks i).isNil=false->1<=n/\Dp (ks i) (n - 1)
theorem jce:∀ (P:PA) (n m:Nat),Dp P n->n<=m->Dp P m
 | .nil,_,_,_,_=>trivial
 | .no,_,_,_,_=>trivial
 | .leaf q _,n,m,h,k=>bK (show q.size<=n from h) k
 | .ext q x,n,m,h,k=>⟨bK h.1 k,jce x _ _ h.2 vO⟩
 | .br _ ks,n,m,h,k=>fun i e=>⟨bK (h i e).1 k,jce (ks i) _ _ (h i e).2 vO⟩
theorem jfT{a:vB}{P:PA}{n:Nat}(h:Dp P (n - a.size))(ha:a.size<=n):Dp (jbY a P) n:=by
 unfold jbY
 by_cases h0:a.size=0
 ·rw[if_pos h0];exact jce P _ _ h vO
 rw[if_neg h0];cases P with
 | nil=>trivial
 | no=>trivial
 | leaf q v =>
  have h:q.size<=n - a.size:=h;show (a++q).size<=n;rw[jcZ];omega
 | ext q m =>
  have e:=h.1
  refine⟨by rw[jcZ];omega,?_⟩
  rw[jcZ];exact jce m _ _ h.2 vO
 | br v ks=>exact⟨ha,h⟩
theorem jh6{v:vB}{ks:Nat->PA}{n:Nat}(h:Dp (.br v ks) n){i:Nat}{P:PA}(h1:1<=n)(hP:Dp P (n - 1))(u:vB):Dp (.br u (setK ks i P)) n:=by
 intro j o
 by_cases e:j=i
 ·rw[e,jb6];exact⟨h1,hP⟩
 ·rw[jdY _ _ e]at o ⊢;exact h j o
theorem jh4{v:vB}{ks:Nat->PA}{n:Nat}(h:Dp (.br v ks) n){p:vB}(hp:p.size<=n)(u:vB):Dp (addK (.br v ks) p u) n:=by
 rw[jb7]
 by_cases h0:p.size=0
 ·rw[if_pos h0];exact h
 ·rw[if_neg h0]
  refine jh6 h vO ?_ v;show (ja9 p).size<=n - 1;unfold ja9;rw[jaY];omega
theorem jht(v:vB)(n:Nat):Dp (.br v fun _=>.nil) n:=fun i e=>by cases e
theorem jd4(a b:vB):jaj a b<=a.size/\jaj a b<=b.size:=by
 have:=jba a.data.toList b.data.toList
 unfold jaj;rw[<-jaK, <-jaK];exact this.2
theorem jnO:∀ (P:PA) (n:Nat) (p u:vB),Dp P n->p.size<=n->Dp (putP P p u) n
 | .nil,_,p,u,_,hp=>hp
 | .no,_,p,u,_,hp=>hp
 | .leaf q v,n,p,u,h,hp=>by
  have h:q.size<=n:=h
  obtain⟨A,E⟩:=jd4 q p
  unfold putP
  by_cases e:p=q
  ·rw[if_pos e];exact hp
  rw[if_neg e];have z:(p.extract 0 (jaj q p)).size=jaj q p:=by rw[cS];omega
  refine jfT ?_ vO;rw[z];have o:=jh4 (jht ⟨#[]⟩ (n - jaj q p)) (p:=q.extract (jaj q p) q.size) (by rw[jaY];omega) v;rw[jb7]at o ⊢
  by_cases h0:(q.extract (jaj q p) q.size).size=0
  ·rw[if_pos h0]at o ⊢
   exact jh4 o (by rw[jaY];omega) u
  ·rw[if_neg h0]at o ⊢
   exact jh4 o (by rw[jaY];omega) u
 | .ext q x,n,p,u,h,hp=>by
  obtain⟨A,E⟩:=jd4 q p
  unfold putP
  by_cases e:jaj q p=q.size
  ·rw[if_pos e]
   refine jfT (jnO x _ _ u h.2 ?_) h.1;rw[jaY];omega
  ·rw[if_neg e]
   have z:(p.extract 0 (jaj q p)).size=jaj q p:=by rw[cS];omega
   refine jfT ?_ vO;rw[z];have H:=h.1;refine jh4 (jh6 (jht ⟨#[]⟩ _) vO (jfT ?_ ?_) _) (by rw[jaY];omega) u
   ·rw[jaY]
    exact jce x _ _ h.2 vO
   ·rw[jaY];omega
 | .br v ks,n,p,u,h,hp=>by
  unfold putP
  by_cases h0:p.size=0
  ·rw[if_pos h0];exact h
  ·rw[if_neg h0]
   refine jh6 h vO (jnO (ks (jai p)) (n - 1) _ u ?_ ?_) v
   ·cases hn:(ks (jai p)).isNil with
    | true=>rw[jbh hn];trivial
    | false=>exact (h _ hn).2
   ·unfold ja9;rw[jaY];omega
theorem jnN{v:vB}{ks:Nat->PA}{n:Nat}(h:Dp (.br v ks) n):Dp (jcP v ks) n:=by
 have o:∀ i∈idxK ks,(ks i).isNil=false:=fun i q=>by
  have:=(cH.1 q).2
  simpa using this
 unfold jcP;cases e:idxK ks with
 | nil =>
  show Dp (if v.size=0 then PA.no else .leaf ⟨#[]⟩ v) n
  by_cases h0:v.size=0
  ·rw[if_pos h0];trivial
  ·rw[if_neg h0];exact cB n
 | cons i r =>
  cases r with
  | nil =>
   show Dp (if v.size=0 then jbY ⟨#[UInt8.ofNat i]⟩ (ks i)else .br v ks) n
   by_cases h0:v.size=0
   ·rw[if_pos h0]
    obtain⟨z,A⟩:=h i (o i (by rw[e];exact bD))
    exact jfT A z
   ·rw[if_neg h0];exact h
  | cons j r=>exact h
theorem jh5:∀ (P:PA) (n:Nat) (p:vB),Dp P n->Dp (jbx P p) n
 | .nil,_,_,_=>trivial
 | .no,_,_,_=>trivial
 | .leaf q v,n,p,h=>by
  unfold jbx
  by_cases e:p=q
  ·rw[if_pos e];trivial
  ·rw[if_neg e];exact h
 | .ext q x,n,p,h=>by
  unfold jbx;cases preB q p with
  | false=>rw[if_neg ff];exact h
  | true=>rw[if_pos rfl];exact jfT (jh5 x _ _ h.2) h.1
 | .br v ks,n,p,h=>by
  unfold jbx
  by_cases h0:p.size=0
  ·rw[if_pos h0];exact jnN h
  ·rw[if_neg h0]
   cases hn:(ks (jai p)).isNil with
   | true=>rw[if_pos rfl];exact h
   | false =>
    rw[if_neg ff]
    obtain⟨o,z⟩:=h _ hn
    refine jnN (jh6 h o ?_ v)
    have:=jh5 (ks (jai p)) (n - 1) (ja9 p) z
    unfold unNo;cases (jbx (ks (jai p)) (ja9 p)).isNo with
    | true=>rw[if_pos rfl];trivial
    | false=>rw[if_neg ff];exact this
theorem jr2:∀ (f:Nat) (l:vL) (k:Nat),jar f l->jar k l->Dp (jaW (f+1) l) k:=by
 intro f;have A:∀ (f:Nat) (l:vL) (k:Nat),jar k l->l.length=1->Dp (jaW (f+1) l) k:=by
  intro f l k h H;rw[jbZ _ H];exact (h.size _ (jdo (l:=l) vO)).1
 induction f with
 | zero =>
  intro l k h J;have hl:=jbA h
  by_cases h0:l.length=0
  ·rw[jbR _ h0];trivial
  ·exact A 0 l k J vO
 | succ f ih =>
  intro l k h z
  by_cases h0:l.length=0
  ·rw[jbR _ h0];trivial
  by_cases H:l.length=1
  ·exact A _ l k z H
  have E:2<=l.length:=vO
  by_cases J:0 < comK l
  ·have Q:=jdo (l:=l) vO
   have X:=jc9 h E;have o:=jbr h E;have Z:=(o _ Q).2;have a0:=(z.size _ Q).1;rw[jdq _ E J]
   refine⟨by rw[X];omega,?_⟩
   rw[X];exact ih _ _ (jdW h E J).1 (jcm (comK l) z (fun p K q hq=>(o p K).1.trans (o q hq).1.symm) (fun p K=>(o p K).2))
  ·rw[jeD _ E J]
   intro i O;have O:(if (cutL i l).length=0 then PA.nil else jaW (f+1) (jag 1 (cutL i l))).isNil=false:=O;show 1<=k/\Dp (if (cutL i l).length=0 then PA.nil else jaW (f+1) (jag 1 (cutL i l))) (k - 1)
   by_cases hc:(cutL i l).length=0
   ·rw[if_pos hc]at O;cases O
   ·rw[if_neg hc]
    refine⟨?_,ih _ _ (jeL h hc).1 (jdJ i z)⟩
    cases e:cutL i l with
    | nil=>rw[e]at hc;exact (hc rfl).elim
    | cons p r =>
     obtain⟨K,a,t,H,E⟩:=jbq (show p∈cutL i l by rw[e];exact bD)
     have:=(z.size p K).1
     have h3:p.1.size=(a :: t).length:=by rw[<-jaK];exact congrArg List.length H
     rw[bP]at h3;omega
section
attribute [local go_sem] Oper.semAt_some
def noV:vV:=.iface 244 (.agg #[])
def jiU(b:Nat):vV:=.iface 233 (.pointer (some ⟨b,0,none⟩))
def extV(b:Nat):vV:=.iface 236 (.pointer (some ⟨b,0,none⟩))
def brV(b:Nat):vV:=.iface 239 (.pointer (some ⟨b,0,none⟩))
def brC(u:vB)(vk:Nat->vV):List vV:=.string u ::(List.range 16).map vk
def PaAt:PA->vV->(Nat->Prop)->vW->Prop
 | .nil,v,_,_=>v=.nilIface
 | .no,v,_,_=>v=noV
 | .leaf q u,v,D,W=>∃ b,v=jiU b/\D b/\Blk W b (.cells #[.string q,.string u] 235)
 | .ext q n,v,D,W=>∃ b T x Dn,v=extV b/\D b/\Blk W b (.cells #[.string q,.iface T x] 238)/\PaAt n (.iface T x) Dn W/\¬ Dn b/\∀ x,Dn x->D x
 | .br u ks,v,D,W=>∃ (b:Nat) (vk:Nat->vV) (Dk:Nat->Nat->Prop),v=brV b/\D b/\Blk W b (.cells (brC u vk).toArray 242) /\
   (∀ i,i < 16->PaAt (ks i) (vk i) (Dk i) W/\¬ Dk i b/\∀ x,Dk i x->D x)/\∀ i j,i < 16->j < 16->i≠j->∀ x,Dk i x->¬ Dk j x
theorem PaAt.keeps{F:BSet}{W W':vW}(k:jad F W W'):∀ (P:PA) (v:vV) (D:Nat->Prop),PaAt P v D W->(∀ x,D x->¬ F x)->PaAt P v D W'
 | .nil,_,_,h,_=>h
 | .no,_,_,h,_=>h
 | .leaf _ _,_,_,⟨b,h1,h2,h3⟩,hF=>⟨b,h1,h2,h3.keeps k (hF b h2)⟩
 | .ext _ n,_,_,⟨b,T,x,Dn,h1,h2,h3,h4,h5,h6⟩,hF=>⟨b,T,x,Dn,h1,h2,h3.keeps k (hF b h2),PaAt.keeps k n (.iface T x) Dn h4 (fun x e=>hF x (h6 x e)),h5,h6⟩
 | .br _ ks,_,_,⟨b,vk,Dk,h1,h2,h3,h4,h5⟩,hF=>⟨b,vk,Dk,h1,h2,h3.keeps k (hF b h2),fun i o=>⟨PaAt.keeps k (ks i) (vk i) (Dk i) (h4 i o).1 (fun x e=>hF x ((h4 i o).2.2 x e)),(h4 i o).2⟩,h5⟩
theorem PaAt.mono{D D':Nat->Prop}{W:vW}(hD:∀ x,D x->D' x):∀ {P:PA} {v:vV},PaAt P v D W->PaAt P v D' W
 | .nil,_,h=>h
 | .no,_,h=>h
 | .leaf _ _,_,⟨b,h1,h2,h3⟩=>⟨b,h1,hD b h2,h3⟩
 | .ext _ n,_,⟨b,T,x,Dn,h1,h2,h3,h4,h5,h6⟩=>⟨b,T,x,Dn,h1,hD b h2,h3,h4,h5,fun x e=>hD x (h6 x e)⟩
 | .br _ ks,_,⟨b,vk,Dk,h1,h2,h3,h4,h5⟩=>⟨b,vk,Dk,h1,hD b h2,h3,fun i o=>⟨(h4 i o).1,(h4 i o).2.1,fun x e=>hD x ((h4 i o).2.2 x e)⟩,h5⟩
theorem PaAt.form{P:PA}{v:vV}{D:Nat->Prop}{W:vW}(h:PaAt P v D W)(hn:P.isNil=false):∃ T x,v=.iface T x:=by
 cases P with
 | nil=>cases hn
 | no=>exact⟨_,_,h⟩
 | leaf q u=>obtain⟨b,h,_⟩:=h;exact⟨_,_,h⟩
 | ext q n=>obtain⟨b,T,x,e,h,_⟩:=h;exact⟨_,_,h⟩
 | br u ks=>obtain⟨b,o,z,h,_⟩:=h;exact⟨_,_,h⟩
structure PaO(P:PA)(v:Value)(D:Nat->Prop)(W:World):Prop where
 at':PaAt P v D W
 lt:∀ x,D x->x < W.heap.size
theorem PaO.keeps{F:BSet}{W W':vW}{P:PA}{v:vV}{D:Nat->Prop}(h:PaO P v D W)(k:jad F W W')(hF:∀ x,D x->¬ F x):PaO P v D W':=
 ⟨h.at'.keeps k P v D hF,fun x e=>bQ (h.lt x e) k.size⟩
theorem PaO.ext{W W':vW}{P:PA}{v:vV}{D:Nat->Prop}(h:PaO P v D W)(k:Ext W W'):PaO P v D W':=h.keeps k fun _ _ e=>e
def Grow(D:Nat->Prop)(W W':vW):Nat->Prop:=fun x=>D x\/(W.heap.size<=x/\x < W'.heap.size)
theorem jeA{D:Nat->Prop}{W W':vW}{F:BSet}(h:∀ x,D x->x < W.heap.size)(k:jad F W W'):∀ x,Grow D W W' x->x < W'.heap.size
 | x,.inl hx=>bQ (h x hx) k.size
 | x,.inr hx=>hx.2
def PaTo(D:Nat->Prop)(W:vW)(P:PA)(e:Ending)(w':vW):Prop:=∃ v,e=.returned v/\PaAt P v (Grow D W w') w'/\jad D W w'
theorem PaTo.own{D:Nat->Prop}{W:vW}{P:PA}{v:vV}{w':vW}(h:PaAt P v (Grow D W w') w')(k:jad D W w')(hl:∀ x,D x->x < W.heap.size):PaO P v (Grow D W w') w':=⟨h,jeA hl k⟩
def PaEx(D:Nat->Prop)(W:vW)(P:PA)(e:Ending)(w':vW):Prop:=∃ v,e=.returned v/\PaAt P v (Grow D W w') w'/\Ext W w'
theorem jv0(b:Nat)(w:vW):(Instr.typeAssert (jiU b) 87 233 true).run Tryz.prog w=.ok (.tuple #[.pointer (some ⟨b,0,none⟩),.bool true]) w:=vY
theorem jm1(v:vV)(h:(∃ b,v=extV b)\/(∃ b,v=brV b)\/v=noV)(w:vW):(Instr.typeAssert v 87 233 true).run Tryz.prog w=.ok (.tuple #[.pointer none,.bool false]) w:=by
 rcases h with⟨b,rfl⟩ |⟨b,rfl⟩ | rfl <;> kernel_rfl
theorem jxF(b:Nat)(w:vW):(Instr.typeAssert (extV b) 87 236 true).run Tryz.prog w=.ok (.tuple #[.pointer (some ⟨b,0,none⟩),.bool true]) w:=vY
theorem juW(v:vV)(h:(∃ b,v=brV b)\/v=noV)(w:vW):(Instr.typeAssert v 87 236 true).run Tryz.prog w=.ok (.tuple #[.pointer none,.bool false]) w:=by
 rcases h with⟨b,rfl⟩ | rfl <;> kernel_rfl
theorem jyD(b:Nat)(w:vW):(Instr.typeAssert (brV b) 87 239 true).run Tryz.prog w=.ok (.tuple #[.pointer (some ⟨b,0,none⟩),.bool true]) w:=vY
theorem jyE(w:vW):(Instr.typeAssert noV 87 239 true).run Tryz.prog w=.ok (.tuple #[.pointer none,.bool false]) w:=vY
end
section
section mixz
variable {P:Program} {l:List Oper} {E D:vW->vW->Prop}
def anyZ(P:Program)(ops:Array Oper)(z:Nat)(hd:List Nat)(E D:vW->vW->Prop)(Q:Act->vW->Prop):Nat->Array Bool->Act->vW->Prop
 | 0,listed,a,w=>listed.getD z true=true/\Region.ready .any ops listed=[]/\Q a w
 | fuel+1,listed,a,w=>∀ w1,(listed.getD z true=false->E w w1)->(listed.getD z true=true->w1=w) ->
  (Region.ready .any ops listed=[]->Q a w1) /\
  ∀ i∈Region.ready .any ops listed,wpOp P ops NoQ i (fun a' w'=>(listed.getD z true=false->i≠z->D w1 w'/\(i ∉ hd->E w1 w'))/\(listed.getD z true=true->w'=w1)/\anyZ P ops z hd E D Q fuel (listed.setIfInBounds i true) a' w') a w1
theorem jqm(hT:∀ x y z,E x y->E y z->E x z){ops:Array Oper}{z:Nat}{hd:List Nat}{Q:Act->vW->Prop}:∀ (fuel:Nat) (listed:Array Bool) (a:Act) (w w1:vW),listed.getD z true=false->anyZ P ops z hd E D Q fuel listed a w->E w w1->anyZ P ops z hd E D Q fuel listed a w1
 | 0,_,_,_,_,hz,h,_=>by have:=h.1;rw[hz]at this;cases this
 | _+1,_,_,_,_,hz,h,he=>fun o q A=>h o (fun e=>hT _ _ _ he (q e)) (fun e=>absurd e (by rw[hz];decide))
theorem jiY(hE:∀ w,E w w){ops:Array Oper}{z:Nat}{hd:List Nat}{Q:Act->vW->Prop}{Q':Exit->Act->vW->Prop}(hQ:∀ a w,Q a w->Q' .normal a w) :
  ∀ (fuel:Nat) (listed:Array Bool) (a:Act) (w:vW),anyZ P ops z hd E D Q fuel listed a w->wpAny P .any ops Q' fuel listed a w
 | 0,_,_,w,h=>⟨h.2.1,hQ _ _ h.2.2⟩
 | fuel+1,_,_,w,h=>let ⟨h1,h2⟩:=h w (fun _=>hE w) (fun _=>rfl)
  ⟨fun e=>hQ _ _ (h1 e),fun i o=>jhH (fun q w' ⟨_,_,A⟩=>jiY hE hQ fuel _ q w' A) (h2 i o)⟩
def jpn(ops:Array Oper)(z i:Nat):Bool:=match ops[z]? with | some o=>o.after.toList.any fun e=>Region.binds .any e && e.on == i | none=>false
theorem jtv{ops:Array Oper}{z i:Nat}{listed:Array Bool}(he:jpn ops z i=true)(hi:i∈Region.ready .any ops listed):z ∉ Region.ready .any ops listed:=by
 intro K;unfold jpn at he
 obtain⟨O,Q,A,o⟩:=mem_ready.1 K
 rw[A]at he
 obtain⟨e,E,H⟩:=fE.1 he
 rw[cQ,beq_iff_eq]at H;have q:=o e (by simpa using E) H.1;have J:=(mem_ready.1 hi).1;rw[H.2]at q;rcases fK i listed.size with h' | h'
 ·simp[h']at J q;rw[J]at q;cases q
 ·simp[gH h']at q
theorem jo8(hE:∀ w,E w w)(hT:∀ x y z,E x y->E y z->E x z)(hD:∀ x y z,D x y->D y z->D x z)(hED:∀ x y,E x y->D x y){ops:Array Oper}{z:Nat}{hd:List Nat}{Q:Act->vW->Prop}{i:Nat}{oi:Oper}{v:vV}(hiz:i≠z)(he0:jpn ops z i=true)(hi:ops[i]?=some oi)(hsel:∀ (j:Nat) (o:Oper) cs b,ops[j]?=some o->o.op≠.select cs b) :
  ∀ (A:Nat) (q:Array Bool) (a:Act) (w:vW),q.getD z true=false ->
   (∀ j Z,ops[j]?=some Z->j≠i->q.getD j true=false->(∀ e∈Z.after,Region.binds .any e=true->e.on≠i)->oi.apart ops Z=true) ->
   i∈Region.ready .any ops q->jct P ops E D w oi v a ->
   anyZ P ops z hd E D Q A (q.setIfInBounds i true) (a.put oi.dst v) w->anyZ P ops z hd E D Q (A+1) q a w:=by
 intro A;induction A with
 | zero =>
  intro q a w hz _ hr hy H
  have:=H.1
  rw[getD_set_ne true hiz,hz]at this;cases this
 | succ A ih =>
  intro q a w hz J hr hy H w1 a8 _;have he:=a8 hz;have a0:(q.setIfInBounds i true).getD z true=false:=by rw[getD_set_ne true hiz,hz]
  refine⟨fun h=>(by rw[h]at hr;cases hr),fun j hj=>?_⟩
  by_cases hji:j=i
  ·subst hji
   exact hy.wpOp hi (hED _ _ he) hE (fun w' K=>⟨fun _ _=>⟨hED _ _ K,fun _=>K⟩,fun e=>absurd e (by rw[hz];decide),jqm hT _ _ _ _ _ a0 H (hT _ _ _ he K)⟩)
  ·have a6:j≠z:=fun e=>jtv he0 hr (e ▸ hj)
   have K:=(H w1 (fun _=>he) (fun e=>by rw[a0]at e;cases e)).2 j (ready_mono hj hji)
   obtain⟨X,Z,a3,a4⟩:=mem_ready.1 hj
   have a5:∀ e∈Z.after,Region.binds .any e=true->e.on≠i:=fun e he hb a9=>by
    have K:=a4 e he hb;have h0:=(mem_ready.1 hr).1;rw[a9]at K;rcases fK i q.size with h' | h'
    ·simp[h']at h0 K;rw[h0]at K;cases K
    ·simp[gH h']at K
   have h2:=jfh (v:=v) (Y:=fun a'=>execOp a'.eval oi=execOp a.eval oi/\Region.wanted oi (yielded ops a'.tmps)=Region.wanted oi (yielded ops a.tmps)) a3 (J j Z a3 hji X a5) (fun cs b=>hsel i oi cs b hi) (fun cs b=>hsel j Z cs b a3)
    (fun a1 a2 h e1 e2=>⟨e1.trans h.1,e2.trans h.2⟩) ⟨rfl,rfl⟩ K
   have O:∀ k ok,ops[k]?=some ok->k≠i->(q.setIfInBounds j true).getD k true=false ->
     (∀ e∈ok.after,Region.binds .any e=true->e.on≠i)->oi.apart ops ok=true:=fun k ok hk b0 a7 b1=>by
    refine J k ok hk b0 ?_ b1
    by_cases hjk:j=k
    ·subst hjk;exact X
    ·rw[getD_set_ne true hjk]at a7;exact a7
   refine wpOp_mono (fun a' w' h3=>?_) h2
   obtain⟨⟨e1,e2⟩,h4,_,h5⟩:=h3
   have h4:=h4 a0 a6
   refine⟨fun _ _=>h4,fun e=>absurd e (by rw[hz];decide),?_⟩
   have b2:jct P ops E D w' oi v a':=(hy.of_same e1 e2).st hD (hD _ _ _ (hED _ _ he) h4.1);refine ih (q.setIfInBounds j true) a' w' (by rw[getD_set_ne true a6,hz]) O (ready_mono hr (Ne.symm hji)) b2 ?_;rw[gP _ _ hji];exact h5
def jgL(P:Program)(ops:Array Oper)(o:Oper)(v:vV)(a:Act):Prop:=
 (Region.wanted o (yielded ops a.tmps)=true/\∀ w1,jnf P (fun x y=>y=x) w1 v ((execOp a.eval o).run P w1))\/(Region.wanted o (yielded ops a.tmps)=false/\v=undef)
theorem jgL.wpOp{ops:Array Oper}{i:Nat}{o:Oper}{v:vV}{a:Act}(hi:ops[i]?=some o)(hy:jgL P ops o v a){K:Act->vW->Prop}{w1:vW}
  (h:K (a.put o.dst v) w1):wpOp P ops NoQ i K a w1:=by
 have q:jbM P ops (fun x y=>y=x) w1 o v a:=by
  rcases hy with⟨h1,h2⟩ | h1
  ·exact .inl ⟨h1,fun w1 _=>h2 w1⟩
  ·exact .inr h1
 exact q.wpOp hi (Eq.refl w1) (fun _=>rfl) (fun w' e=>by have e:w'=w1:=e;rw[e];exact h)
theorem js1(hE:∀ w,E w w)(hT:∀ x y z,E x y->E y z->E x z)(hED:∀ x y,E x y->D x y){ops:Array Oper}{z:Nat}{hd:List Nat}{Q:Act->vW->Prop}{i:Nat}{oi:Oper}{v:vV}(hiz:i≠z)(hi:ops[i]?=some oi)(hsel:∀ (j:Nat) (o:Oper) cs b,ops[j]?=some o->o.op≠.select cs b) :
  ∀ (A:Nat) (q:Array Bool) (a:Act) (w:vW),
   (∀ j oj,ops[j]?=some oj->j≠i->q.getD j true=false->(∀ e∈oj.after,Region.binds .any e=true->e.on≠i)->oi.apart ops oj=true) ->
   i∈Region.ready .any ops q->jgL P ops oi v a ->
   anyZ P ops z hd E D Q A (q.setIfInBounds i true) (a.put oi.dst v) w->anyZ P ops z hd E D Q (A+1) q a w:=by
 intro A;have a0:∀ (A:Nat) (q:Array Bool) (a:Act) (w w1:vW),(q.getD z true=false->E w w1)->(q.getD z true=true->w1=w) ->
   anyZ P ops z hd E D Q A (q.setIfInBounds i true) (a.put oi.dst v) w->anyZ P ops z hd E D Q A (q.setIfInBounds i true) (a.put oi.dst v) w1:=by
  intro A q a w w1 K h2 H;cases hz:q.getD z true with
  | true=>rw[h2 hz];exact H
  | false=>exact jqm hT _ _ _ _ _ (by rw[getD_set_ne true hiz,hz]) H (K hz)
 induction A with
 | zero =>
  intro q a w J hr hy H w1 O X;have hz:q.getD z true=true:=by have:=H.1;rwa [getD_set_ne true hiz]at this
  refine⟨fun h=>(by rw[h]at hr;cases hr),fun j hj=>?_⟩
  by_cases hji:j=i
  ·subst hji
   exact hy.wpOp hi ⟨fun _ _=>⟨hED _ _ (hE w1),fun _=>hE w1⟩,fun _=>rfl,a0 0 q a w w1 O X H⟩
  ·have:=ready_mono hj hji
   rw[H.2.1]at this;cases this
 | succ A ih =>
  intro q a w J hr hy H w1 O X
  refine⟨fun h=>(by rw[h]at hr;cases hr),fun j hj=>?_⟩
  by_cases hji:j=i
  ·subst hji
   exact hy.wpOp hi ⟨fun _ _=>⟨hED _ _ (hE w1),fun _=>hE w1⟩,fun _=>rfl,a0 _ q a w w1 O X H⟩
  ·have a4:(q.setIfInBounds i true).getD z true=q.getD z true:=getD_set_ne true hiz
   have K:=(H w1 (fun e=>O (a4 ▸ e)) (fun e=>X (a4 ▸ e))).2 j (ready_mono hj hji)
   obtain⟨a3,oj,a5,a6⟩:=mem_ready.1 hj
   have a7:∀ e∈oj.after,Region.binds .any e=true->e.on≠i:=fun e he hb b0=>by
    have K:=a6 e he hb;have h0:=(mem_ready.1 hr).1;rw[b0]at K;rcases fK i q.size with h' | h'
    ·simp[h']at h0 K;rw[h0]at K;cases K
    ·simp[gH h']at K
   have h2:=jfh (v:=v) (Y:=fun a'=>execOp a'.eval oi=execOp a.eval oi/\Region.wanted oi (yielded ops a'.tmps)=Region.wanted oi (yielded ops a.tmps)) a5 (J j oj a5 hji a3 a7) (fun cs b=>hsel i oi cs b hi) (fun cs b=>hsel j oj cs b a5)
    (fun a1 a2 h e1 e2=>⟨e1.trans h.1,e2.trans h.2⟩) ⟨rfl,rfl⟩ K
   have Z:∀ k ok,ops[k]?=some ok->k≠i->(q.setIfInBounds j true).getD k true=false ->
     (∀ e∈ok.after,Region.binds .any e=true->e.on≠i)->oi.apart ops ok=true:=fun k ok hk b1 a8 b2=>by
    refine J k ok hk b1 ?_ b2
    by_cases hjk:j=k
    ·subst hjk;exact a3
    ·rw[getD_set_ne true hjk]at a8;exact a8
   refine wpOp_mono (fun a' w' h3=>?_) h2
   obtain⟨⟨e1,e2⟩,h4,a9,h5⟩:=h3
   rw[a4]at h4 a9
   refine⟨h4,a9,?_⟩
   have b3:jgL P ops oi v a':=by unfold jgL at *;rw[e1,e2];exact hy
   refine ih (q.setIfInBounds j true) a' w' Z (ready_mono hr (Ne.symm hji)) b3 ?_;rw[gP _ _ hji];exact h5
def MixZ(P:Program)(l:List Oper)(z:Nat)(hd:List Nat)(E D:vW->vW->Prop)(Q:Act->vW->Prop):List Nat->List Nat->Act->vW->Prop
 | [],done,a,w=>Region.ready .any l.toArray (jbd l done)=[z]/\(jbd l done).getD z true=false/\(jbd l (z :: done)).getD z true=true/\Region.ready .any l.toArray (jbd l (z :: done))=[]/\∀ w1,E w w1->wpOp P l.toArray NoQ z Q a w1
 | k :: ord,done,a,w=>(jbd l done).getD z true=false/\k≠z /\
  ((k∈Region.ready .any l.toArray (jbd l done)/\Region.free .any l.toArray (jbd l done) k=true/\∃ o v,l[k]?=some o/\((jpn l.toArray z k=true/\jct P l.toArray E D w o v a)\/jgL P l.toArray o v a)/\MixZ P l z hd E D Q ord (k :: done) (a.put o.dst v) w) \/
  (Region.ready .any l.toArray (jbd l done)=[k]/\k∈hd/\∀ w1,E w w1->wpOp P l.toArray NoQ k (fun a' w'=>D w1 w'/\MixZ P l z hd E D Q ord (k :: done) a' w') a w1))
theorem jes(hE:∀ w,E w w)(hT:∀ x y z,E x y->E y z->E x z)(hD:∀ x y z,D x y->D y z->D x z)(hED:∀ x y,E x y->D x y)(hs:Region.noSelect l.toArray=true){z:Nat}{hd:List Nat}{Q:Act->vW->Prop}:∀ (ord:List Nat) (done:List Nat) (a:Act) (w:vW),
  MixZ P l z hd E D Q ord done a w->anyZ P l.toArray z hd E D Q (ord.length+1) (jbd l done) a w
 | [],done,a,w,⟨h1,hz,hz2,K,h3⟩=>fun w1 A _=>by
  refine⟨fun H=>(by rw[h1]at H;cases H),fun i J=>?_⟩
  rw[h1]at J;obtain rfl:i=z:=by simpa using J
  exact wpOp_mono (fun O w' h=>⟨fun _ e=>absurd rfl e,fun e=>absurd e (by rw[hz];decide),hz2,K,h⟩) (h3 w1 (A hz))
 | k :: ord,done,a,w,⟨hz,hkz,h⟩=>by
  rcases h with⟨hr,hf,o,v,ho,hy,h⟩ |⟨hr,hkd,h⟩
  ·have q:l.toArray[k]?=some o:=by simpa using ho
   rcases hy with⟨A,hy⟩ | hy
   ·exact jo8 hE hT hD hED hkz A q (gZ hs) (ord.length+1) (jbd l done) a w hz (iJ q hf) hr hy (jes hE hT hD hED hs ord _ _ _ h)
   ·exact js1 hE hT hED hkz q (gZ hs) (ord.length+1) (jbd l done) a w (iJ q hf) hr hy (jes hE hT hD hED hs ord _ _ _ h)
  ·intro w1 A _
   refine⟨fun H=>(by rw[hr]at H;cases H),fun i J=>?_⟩
   rw[hr]at J;obtain rfl:i=k:=by simpa using J
   exact wpOp_mono (fun O w' K=>⟨fun _ _=>⟨K.1,fun X=>absurd hkd X⟩,fun e=>absurd e (by rw[hz];decide),jes hE hT hD hED hs ord _ _ _ K.2⟩) (h w1 (A hz))
theorem jc5(ord:List Nat)(z:Nat)(hd:List Nat)(E D:vW->vW->Prop)(hE:∀ w,E w w)(hT:∀ x y z,E x y->E y z->E x z)(hD:∀ x y z,D x y->D y z->D x z)(hED:∀ x y,E x y->D x y){id:Nat}{Q:Exit->Act->vW->Prop}{a:Act}{w:vW}
  (hm:P.follows .mixedOrders=true) (hs:Region.noSelect l.toArray=true) (hl:ord.length+1=l.toArray.size)
  (h:MixZ P l z hd E D (fun a w=>Q .normal a w) ord [] a w.drew):(Code.region id l.toArray true).wp P Q a w:=by
 refine wp_region_any hm ?_;rw[<-hl]
 have:=jes hE hT hD hED hs ord _ _ _ h
 unfold jbd at this;rw[hl]at this ⊢;exact jiY hE (fun _ _ h=>h) _ _ _ _ this
variable {Q:Act->vW->Prop} {ord done hd:List Nat} {a:Act} {w:vW} {k z:Nat} {o:Oper}
def jpv(l:List Oper)(z:Nat)(done:List Nat)(k:Nat):Bool:=(Region.ready .any l.toArray (jbd l done)).contains k && Region.free .any l.toArray (jbd l done) k && (jbd l done).getD z true == false && k != z
theorem jgZ(h:jpv l z done k=true):(k∈Region.ready .any l.toArray (jbd l done)/\Region.free .any l.toArray (jbd l done) k=true)/\(jbd l done).getD z true=false/\k≠z:=by
 simp only[jpv,cQ,cT,beq_iff_eq,bne_iff_ne]at h
 exact⟨h.1.1,h.1.2,h.2⟩
theorem jrN(o:Oper)(ho:l[k]?=some o)(hk:jpv l z done k=true)(hw:Region.wanted o (yielded l.toArray a.tmps)=true)(hq:jjk o.op=true)
  (h:∀ K:Act->Prop,(∀ a',MixZ P l z hd E D Q ord (k :: done) a' w->K a')->o.quiet P a (fun _=>True) K):MixZ P l z hd E D Q (k :: ord) done a w:=by
 obtain⟨⟨q,A⟩,H,J⟩:=jgZ hk
 obtain⟨v,O,X⟩:=h _ (fun _ h=>h)
 refine⟨H,J,.inl ⟨q,A,o,v,ho,.inr (.inl ⟨hw,fun w1=>?_⟩),X⟩⟩
 have e:=O w1 trivial;unfold Oper.quietAt at e;have Z:=fun f args w'=>jkz (ρ:=a.eval) hq P w1 w' f args;generalize (execOp a.eval o).run P w1=r at *;cases r with
 | ok n w'=>cases n <;> simp only[Oper.quietUpon]at e <;> first | exact e | exact absurd rfl (Z _ _ _)
 | halt x w'=>simp only[Oper.quietUpon]at e
theorem jcx(o:Oper)(v:vV)(ho:l[k]?=some o)(hk:jpv l z done k=true)(hw:Region.wanted o (yielded l.toArray a.tmps)=true)
  (hv:∀ w1,(execOp a.eval o).run P w1=.ok (.value v) w1) (h:MixZ P l z hd E D Q ord (k :: done) (a.put o.dst v) w):MixZ P l z hd E D Q (k :: ord) done a w:=by
 obtain⟨⟨e,q⟩,A,H⟩:=jgZ hk
 exact⟨A,H,.inl ⟨e,q,o,v,ho,.inr (.inl ⟨hw,fun w1=>by rw[hv w1];exact⟨rfl,rfl⟩⟩),h⟩⟩
theorem jt0(o:Oper)(v:vV)(ho:l[k]?=some o)(hk:jpv l z done k=true)(he:jpn l.toArray z k=true)(hw:Region.wanted o (yielded l.toArray a.tmps)=true)
  (hv:∀ w1,D w w1->(execOp a.eval o).run P w1=.ok (.value v) w1) (h:MixZ P l z hd E D Q ord (k :: done) (a.put o.dst v) w):MixZ P l z hd E D Q (k :: ord) done a w:=by
 obtain⟨⟨e,q⟩,A,H⟩:=jgZ hk
 exact⟨A,H,.inl ⟨e,q,o,v,ho,.inl ⟨he,.inl ⟨hw,fun w1 J=>by rw[hv w1 J];exact⟨rfl,rfl⟩⟩⟩,h⟩⟩
theorem jgr(p:Addr)(v:vV){t:TypeId}{x:Operand}{d:Option Tmp}{ty:TypeId}{pos:String}{af:Array Edge}{g:Option (Nat × Bool)}(ho:l[k]?=some ⟨d,.load t x,ty,pos,af,g⟩)(hk:jpv l z done k=true)(he:jpn l.toArray z k=true)
  (hw:Region.wanted ⟨d,.load t x,ty,pos,af,g⟩ (yielded l.toArray a.tmps)=true) (hx:a.eval x=.pointer (some p))
  (hv:∀ w1,D w w1->(Instr.loadAt t (.pointer (some p))).run P w1=.ok v w1) (h:MixZ P l z hd E D Q ord (k :: done) (a.put d v) w):MixZ P l z hd E D Q (k :: ord) done a w:=by
 refine jt0 _ v ho hk he hw (fun w1 e=>?_) h
 have:=hv w1 e
 simp only[execOp,hx,bT,this,Result.andThen,cI]
def juL(l:List Oper)(z:Nat)(hd done:List Nat)(k:Nat):Bool:=Region.ready .any l.toArray (jbd l done) == [k] && (jbd l done).getD z true == false && k != z && hd.contains k
theorem jgp(o:Oper)(ho:l[k]?=some o)(hk:juL l z hd done k=true)(hw:Region.wanted o (yielded l.toArray a.tmps)=true)
  (h:∀ w1,E w w1->∀ K:Act->vW->Prop,(∀ a' w',D w1 w'->MixZ P l z hd E D Q ord (k :: done) a' w'->K a' w')->o.wp P a w1 K NoQ):MixZ P l z hd E D Q (k :: ord) done a w:=by
 simp only[juL,cQ,beq_iff_eq,bne_iff_ne,cT]at hk
 refine⟨hk.1.1.2,hk.1.2,.inr ⟨hk.1.1.1,hk.2,fun w1 q=>?_⟩⟩
 unfold wpOp;have e:l.toArray[k]?=some o:=by simpa using ho
 simp only[e,hw,if_true];exact .inl (h w1 q _ (fun _ _ A H=>⟨A,H⟩))
def jxO(l:List Oper)(z:Nat)(done:List Nat):Bool:=Region.ready .any l.toArray (jbd l done) == [z] && (jbd l done).getD z true == false && (jbd l (z :: done)).getD z true == true && (Region.ready .any l.toArray (jbd l (z :: done))).isEmpty
theorem jgq(o:Oper)(ho:l[z]?=some o)(hk:jxO l z done=true)(hw:Region.wanted o (yielded l.toArray a.tmps)=true)
  (h:∀ w1,E w w1->∀ K:Act->vW->Prop,(∀ a' w',Q a' w'->K a' w')->o.wp P a w1 K NoQ):MixZ P l z hd E D Q [] done a w:=by
 simp only[jxO,cQ,beq_iff_eq,List.isEmpty_iff]at hk
 refine⟨hk.1.1.1,hk.1.1.2,hk.1.2,hk.2,fun w1 q=>?_⟩
 unfold wpOp;have e:l.toArray[z]?=some o:=by simpa using ho
 simp only[e,hw,if_true];exact .inl (h w1 q _ (fun _ _ h=>h))
end mixz
end
section
attribute [local go_sem] Oper.semAt_some
theorem jcU{p:vB}(h:p.size≠0):p.toList.isEmpty=false:=by
 rw[gA];intro e;rw[List.isEmpty_iff,bX]at e;exact h (by rw[<-jaK,e];rfl)
theorem PaEx.mk1{D:Nat->Prop}{W W':vW}{P:PA}{v:vV}(h:PaAt P v (Grow D W W') W')(e:Ext W W'):PaEx D W P (.returned v) W':=⟨v,rfl,h,e⟩
theorem jx3(W:vW)(D:Nat->Prop)(P:PA)(v:vV)(h:PaAt P v D W):vQ 265 #[.string ⟨#[]⟩,v] W (PaEx D W P):=by
 have H:=Hd h;clear h;go_enter Tryz.func265,Tryz.ntmps265;have e:(⟨#[]⟩:vB).toList.isEmpty=true:=by rw[bX];rfl
 go_wp2_with fail
 go_ret;exact PaEx.mk1 (H.o.mono (fun x q=>.inl q)) (ExtR W)
theorem jwg(W:vW)(D:Nat->Prop)(a q u:vB)(b:Nat)(hB:Blk W b (.cells #[.string q,.string u] 235))(h0:a.size≠0)(ha:a.size<=1000000)(hq:q.size<=1000000) :
  vQ 265 #[.string a,jiU b] W (PaEx D W (.leaf (a++q) u)):=by
 have a0:=jcU h0;have Q:=hB.cell (i:=0) (v:=.string q) vF;have X:=hB.cell (i:=1) (v:=.string u) vF;have Q0:=Hd Q;have Q1:=Hd X;have hT:=jv0 b;unfold jiU at hT ⊢;clear hB h0 Q X;go_enter Tryz.func265,Tryz.ntmps265;go_wp2_with fail
 refine jak [0,1,2,3,4,5,6,7,8,9,10,11,12,13] (Ext) ExtR ExtT vY vY vY ?_;iterate 2 refine vK ?_
 refine jcp _ ((.pointer (some ⟨b,0,none⟩))) rfl vY rfl (fun w1 _=>by kernel_rfl) ?_;refine vS ?_
 refine vK ?_
 refine qKL ⟨b,0,none⟩ _ rfl (fun w1 J=>jaw (fun w=>by kernel_rfl) (jaa Q0.o ((jam _).trans J))) ?_;refine vS ?_;iterate 2 refine vK ?_
 refine jcp _ ((.pointer (some ⟨b,0,none⟩))) rfl vY rfl (fun w1 _=>by kernel_rfl) ?_;refine vS ?_
 refine vK ?_
 refine qKL ⟨b,1,none⟩ _ rfl (fun w1 J=>jaw (fun w=>by kernel_rfl) (jaa Q1.o ((jam _).trans J))) ?_;refine vS ?_
 refine vK ?_
 refine jec _ rfl vY rfl (fun z hb K Z=>?_);refine jcr (v:=.pointer (some ⟨z.heap.size,0,none⟩)) (w':=z.alloc (.cells #[.string (a++q),.string u] 235)) vY (Z _ _ ((ExtR z).alloc _) ?_);clear Z K;have hN:=Blk.new z (.cells #[.string (a++q),.string u] 235);refine vS ?_;iterate 2 refine vK ?_
 refine qKE (fun w5 O=>?_);have E:Ext W w5:=(((jam W).trans hb).trans ((ExtR z).alloc _)).trans O;have e:=hN.keeps O (fun h=>h);have A:=hb.size;have A:W.heap.size<=z.heap.size:=A;have H:=e.lt;have HX:=Hd (bB E (bB e (bB A H)));clear O hN hb E e A H;go_wp2_with fail
 go_ret
 obtain⟨E,e,A,H⟩:=HX.o
 exact PaEx.mk1 ⟨_,rfl,.inr ⟨A,H⟩,e⟩ E
theorem jx2(W:vW)(D:Nat->Prop)(a q:vB)(n:PA)(T:TypeId)(x:vV)(Dn:Nat->Prop)(b:Nat)(hB:Blk W b (.cells #[.string q,.iface T x] 238))(O:PaAt n (.iface T x) Dn W)(H:∀ x,Dn x->D x/\x < W.heap.size)(h0:a.size≠0)(ha:a.size<=1000000)(hq:q.size<=1000000) :
  vQ 265 #[.string a,extV b] W (PaEx D W (.ext (a++q) n)):=by
 have a0:=jcU h0;have q0:=hB.cell (i:=0) (v:=.string q) vF;have q1:=hB.cell (i:=1) (v:=.iface T x) vF;have Q0:=Hd q0;have Q1:=Hd q1;have HV:=Hd (bB O H);have hT:=jxF b;have X:=jm1 (extV b) (.inl ⟨b,rfl⟩);unfold extV at hT X ⊢;clear hB h0 q0 q1 O H;go_enter Tryz.func265,Tryz.ntmps265;go_wp2_with fail
 refine jak [0,1,2,3,4,5,6,7,8,9,10,11,12,13] (Ext) ExtR ExtT vY vY vY ?_;iterate 2 refine vK ?_
 refine jcp _ ((.pointer (some ⟨b,0,none⟩))) rfl vY rfl (fun w1 _=>by kernel_rfl) ?_;refine vS ?_
 refine vK ?_
 refine qKL ⟨b,0,none⟩ _ rfl (fun w1 Z=>jaw (fun w=>by kernel_rfl) (jaa Q0.o ((jam _).trans Z))) ?_;refine vS ?_;iterate 2 refine vK ?_
 refine jcp _ ((.pointer (some ⟨b,0,none⟩))) rfl vY rfl (fun w1 _=>by kernel_rfl) ?_;refine vS ?_
 refine vK ?_
 refine qKL ⟨b,1,none⟩ _ rfl (fun w1 Z=>jaw (fun w=>by kernel_rfl) (jaa Q1.o ((jam _).trans Z))) ?_;refine vS ?_
 refine vK ?_
 refine jec _ rfl vY rfl (fun A hb K hK=>?_);refine jcr (v:=.pointer (some ⟨A.heap.size,0,none⟩)) (w':=A.alloc (.cells #[.string (a++q),.iface T x] 238)) vY (hK _ _ ((ExtR A).alloc _) ?_);clear hK K;have hN:=Blk.new A (.cells #[.string (a++q),.iface T x] 238);refine vS ?_;iterate 2 refine vK ?_
 refine qKE (fun w5 he=>?_);have J:Ext W w5:=(((jam W).trans hb).trans ((ExtR A).alloc _)).trans he;have z:=hN.keeps he (fun h=>h);have E:=hb.size;have E:W.heap.size<=A.heap.size:=E;have Q:=z.lt;have HX:=Hd (bB J (bB z (bB E Q)));clear he hN hb J z E Q;go_wp2_with fail
 go_ret
 obtain⟨J,z,E,Q⟩:=HX.o
 obtain⟨O,H⟩:=HV.o
 exact PaEx.mk1 ⟨_,T,x,Dn,rfl,.inr ⟨E,Q⟩,z,O.keeps J n (.iface T x) Dn (fun _ _ e=>e),fun e=>by have:=(H _ e).2;omega,fun x hx=>.inl (H x hx).1⟩ J
theorem jyZ(W:vW)(D:Nat->Prop)(a:vB)(u:vB)(ks:Nat->PA)(b:Nat)(h:PaO (.br u ks) (brV b) D W)(h0:a.size≠0) :
  vQ 265 #[.string a,brV b] W (PaEx D W (.ext a (.br u ks))):=by
 have J:=jcU h0;have A:=Hd h;have K:=jyD b;have q:=jm1 (brV b) (.inr (.inl ⟨b,rfl⟩));have z:=juW (brV b) (.inl ⟨b,rfl⟩);unfold brV at K q z ⊢;clear h h0;go_enter Tryz.func265,Tryz.ntmps265;go_wp2_with fail
 go_ret;have E:Ext W (W.alloc (.cells #[.string a,brV b] 238)):=(ExtR W).alloc _;have H:=Blk.new W (.cells #[.string a,brV b] 238);exact PaEx.mk1 ⟨_,_,_,D,rfl,.inr ⟨bM _,H.lt⟩,H,A.o.at'.keeps E _ _ _ (fun _ _ e=>e),fun e=>by have:=A.o.lt _ e;omega,fun x O=>.inl O⟩ E
theorem jy0(W:vW)(D:Nat->Prop)(a:vB)(h0:a.size≠0):vQ 265 #[.string a,noV] W (PaEx D W .no):=by
 have z:=jcU h0;have e:=jm1 noV (.inr (.inr rfl));have o:=juW noV (.inr rfl);have q:=jyE;unfold noV at e o q ⊢;clear h0;go_enter Tryz.func265,Tryz.ntmps265;go_wp2_with fail
 go_ret;exact PaEx.mk1 rfl (ExtR W)
theorem pj_c(W:vW)(D:Nat->Prop)(a:vB)(P:PA)(v:vV)(h:PaO P v D W)(hn:P.isNil=false)(ha:a.size<=1000000)(hd:Dp P 1000000) :
  vQ 265 #[.string a,v] W (PaEx D W (jbY a P)):=by
 unfold jbY
 by_cases h0:a.size=0
 ·rw[if_pos h0,jbp h0];exact jx3 W D P v h.at'
 rw[if_neg h0];cases P with
 | nil=>cases hn
 | no=>obtain rfl:v=noV:=h.at';exact jy0 W D a h0
 | leaf q u =>
  obtain⟨b,rfl,o,e⟩:=h.at'
  exact jwg W D a q u b e h0 ha hd
 | ext q n =>
  obtain⟨b,T,x,H,rfl,o,e,z,J,A⟩:=h.at'
  exact jx2 W D a q n T x H b e z (fun x E=>⟨A x E,h.lt x (A x E)⟩) h0 ha hd.1
 | br u ks =>
  obtain⟨b,K,O,rfl,o,e,z,J⟩:=h.at'
  exact jyZ W D a u ks b h h0
end
section
attribute [local go_sem] Oper.semAt_some
theorem jdw{a:vB}{P:PA}(h:P.isNil=false):(jbY a P).isNil=false:=by
 unfold jbY;split
 ·exact h
 ·cases P <;> rfl
theorem jiw:∀ (P:PA) (p u:vB),(putP P p u).isNil=false
 | .nil,_,_=>rfl
 | .no,_,_=>rfl
 | .leaf q v,p,u=>by
  unfold putP;split
  ·rfl
  ·refine jdw ?_
   rw[jb7];split
   ·rw[jb7];split <;> rfl
   ·rw[jb7];split <;> rfl
 | .ext q n,p,u=>by
  unfold putP;split
  ·exact jdw (jiw n _ _)
  ·refine jdw ?_
   rw[jb7];split <;> rfl
 | .br v ks,p,u=>by
  unfold putP;split <;> rfl
theorem jcz{P:Program}{a:Act}{w:vW}{d:Option Tmp}{x:Operand}{name:String}{args:Array Operand}{ats:Array TypeId}{ty:TypeId}{pos:String}{af:Array Edge}{g:Option (Nat × Bool)}{T:TypeId}{v r:vV}{f:FuncId}{vs:Array vV}(hx:a.eval x=.iface T v)
  (hm:(Go.method (P.types.size+Made.depth) T v name).run P w=.ok (f,r) w) (eg:∀ args w,(callFunc f args).run P w=.ok (.enter f args) w) (hv:args.map a.eval=vs) :
  (execOp a.eval ⟨d,.call { callee:=.invoke x name,args:=args,argTypes:=ats },ty,pos,af,g⟩).run P w=.ok (.enter f (#[r]++vs)) w:=by
 subst hv;have e:(#[Value.iface T v]++args.map a.eval)[0]?=some (.iface T v):=by simp[Array.getElem?_append]
 have o:(#[Value.iface T v]++args.map a.eval).extract 1 (#[Value.iface T v]++args.map a.eval).size=args.map a.eval:=by simp
 simp only[execOp,resolve,hx,bT,cI,Result.andThen,invoke,e,o,callMethod,run_program,hm,eg]
def jkq:PA->FuncId
 | .leaf _ _=>263
 | .ext _ _=>269
 | .br _ _=>264
 | _=>279
def je2:PA->FuncId
 | .leaf _ _=>260
 | .ext _ _=>266
 | .br _ _=>272
 | _=>276
def jf0:PA->FuncId
 | .leaf _ _=>261
 | .ext _ _=>267
 | .br _ _=>273
 | _=>277
def jlY:PA->FuncId
 | .leaf _ _=>262
 | .ext _ _=>268
 | .br _ _=>274
 | _=>278
set_option maxRecDepth 100000
theorem jh9(P:PA):∀ args w,(callFunc (jkq P) args).run Tryz.prog w=.ok (.enter (jkq P) args) w:=by intro args w;cases P <;> kernel_rfl
theorem jfp(P:PA):∀ args w,(callFunc (je2 P) args).run Tryz.prog w=.ok (.enter (je2 P) args) w:=by intro args w;cases P <;> kernel_rfl
theorem jd5(P:PA):∀ args w,(callFunc (jf0 P) args).run Tryz.prog w=.ok (.enter (jf0 P) args) w:=by intro args w;cases P <;> kernel_rfl
theorem jpo(P:PA):∀ args w,(callFunc (jlY P) args).run Tryz.prog w=.ok (.enter (jlY P) args) w:=by intro args w;cases P <;> kernel_rfl
structure jw1(P:PA)(T:TypeId)(x:Value):Prop where
 put:∀ w,(Go.method (Tryz.prog.types.size+Made.depth) T x "guilloche/trie.put").run Tryz.prog w=.ok (jkq P,x) w
 drop:∀ w,(Go.method (Tryz.prog.types.size+Made.depth) T x "guilloche/trie.drop").run Tryz.prog w=.ok (je2 P,x) w
 ent:∀ w,(Go.method (Tryz.prog.types.size+Made.depth) T x "guilloche/trie.entries").run Tryz.prog w=.ok (jf0 P,x) w
 form:∀ w,(Go.method (Tryz.prog.types.size+Made.depth) T x "guilloche/trie.form").run Tryz.prog w=.ok (jlY P,x) w
theorem PaAt.meth{P:PA}{T:TypeId}{x:vV}{D:Nat->Prop}{W:vW}(h:PaAt P (.iface T x) D W):jw1 P T x:=by
 cases P with
 | nil=>cases h
 | no =>
  have h:Value.iface T x=noV:=h;unfold noV at h;injection h with h1 h2;subst h1 h2
  exact⟨fun w=>by kernel_rfl,fun w=>by kernel_rfl,fun w=>by kernel_rfl,fun w=>by kernel_rfl⟩
 | leaf q u =>
  obtain⟨b,h,_⟩:=h
  unfold jiU at h;injection h with h1 h2;subst h1 h2
  exact⟨fun w=>by kernel_rfl,fun w=>by kernel_rfl,fun w=>by kernel_rfl,fun w=>by kernel_rfl⟩
 | ext q n =>
  obtain⟨b,_,_,_,h,_⟩:=h
  unfold extV at h;injection h with h1 h2;subst h1 h2
  exact⟨fun w=>by kernel_rfl,fun w=>by kernel_rfl,fun w=>by kernel_rfl,fun w=>by kernel_rfl⟩
 | br u ks =>
  obtain⟨b,_,_,h,_⟩:=h
  unfold brV at h;injection h with h1 h2;subst h1 h2
  exact⟨fun w=>by kernel_rfl,fun w=>by kernel_rfl,fun w=>by kernel_rfl,fun w=>by kernel_rfl⟩
theorem jwa:jw1 .no 244 (.agg #[]):=PaAt.meth (D:=fun _=>True) (W:={ (default:vW)with heap:=#[] }) rfl
def PutC(P:PA):Prop:=∀ (W:vW) (T:TypeId) (x:vV) (D:Nat->Prop) (p u:vB),PaO P (.iface T x) D W->p.size<=900000->jaG p=true->Dp P 900000 ->
 vQ (jkq P) #[x,.string p,.string u] W (PaTo D W (putP P p u))
theorem PaTo.mk1{D:Nat->Prop}{W W':vW}{P:PA}{v:vV}(h:PaAt P v (Grow D W W') W')(e:jad D W W'):PaTo D W P (.returned v) W':=⟨v,rfl,h,e⟩
theorem jmQ(T:TypeId)(x:vV)(w:vW):(binOp .eql 87 (.iface T x) .nilIface).run Tryz.prog w=.ok (.bool false) w:=vY
theorem jxE(w:vW):(binOp .eql 87 .nilIface .nilIface).run Tryz.prog w=.ok (.bool true) w:=vY
theorem jgP(u:vB)(vk:Nat->vV):(brC u vk).length=17:=by simp[brC]
theorem jeu(u:vB)(vk:Nat->vV){i:Nat}(h:i < 16):(brC u vk)[1+i]?=some (vk i):=by
 rw[gN];show ((List.range 16).map vk)[i]?=_;rw[bZ,dV h];rfl
def setV(vk:Nat->vV)(i:Nat)(v:vV):Nat->vV:=fun j=>if j=i then v else vk j
theorem jqx(u:vB)(vk:Nat->vV){i:Nat}(h:i < 16)(v:vV):(brC u vk).toArray.setIfInBounds (1+i) v=(brC u (setV vk i v)).toArray:=by
 have e:(brC u vk).set (1+i) v=brC u (setV vk i v):=by
  rw[gN];show Value.string u ::((List.range 16).map vk).set i v=Value.string u ::(List.range 16).map (setV vk i v)
  congr 1
  apply List.ext_getElem?;intro j;rw[List.getElem?_set]
  by_cases hj:i=j
  ·subst hj
   rw[if_pos rfl,if_pos (by simpa using h),bZ,dV h];simp[setV]
  ·rw[if_neg hj]
   by_cases hj16:j < 16
   ·rw[bZ,bZ,dV hj16]
    simp[setV,Ne.symm hj]
   ·rw[iQ (by simp;omega),iQ (by simp;omega)]
 rw[<-e];simp
theorem jvy(u u':vB)(vk:Nat->vV):(brC u vk).toArray.setIfInBounds 0 (.string u')=(brC u' vk).toArray:=by simp[brC]
structure BrAt(u:vB)(ks:Nat->PA)(b:Nat)(vk:Nat->Value)(Dk:Nat->Nat->Prop)(D:Nat->Prop)(W:World):Prop where
 mem:D b
 blk:Blk W b (.cells (brC u vk).toArray 242)
 kid:∀ i,i < 16->PaAt (ks i) (vk i) (Dk i) W/\¬ Dk i b/\∀ x,Dk i x->D x
 apart:∀ i j,i < 16->j < 16->i≠j->∀ x,Dk i x->¬ Dk j x
 lt:∀ x,D x->x < W.heap.size
theorem BrAt.pa{u:vB}{ks:Nat->PA}{b:Nat}{vk:Nat->vV}{Dk:Nat->Nat->Prop}{D:Nat->Prop}{W:vW}(h:BrAt u ks b vk Dk D W):PaO (.br u ks) (brV b) D W:=
 ⟨⟨b,vk,Dk,rfl,h.mem,h.blk,h.kid,h.apart⟩,h.lt⟩
theorem PaO.br{u:vB}{ks:Nat->PA}{b:Nat}{D:Nat->Prop}{W:vW}(h:PaO (.br u ks) (brV b) D W):∃ o q,BrAt u ks b o q D W:=by
 obtain⟨J,o,q,e,z,A,E,H⟩:=h.at'
 unfold brV at e;injection e with _ e;injection e with e;injection e with e;injection e with e;subst e
 exact⟨o,q,z,A,E,H,h.lt⟩
theorem BrAt.keeps{F:BSet}{u:vB}{ks:Nat->PA}{b:Nat}{vk:Nat->vV}{Dk:Nat->Nat->Prop}{D:Nat->Prop}{W W':vW}(h:BrAt u ks b vk Dk D W)(k:jad F W W')(hF:∀ x,D x->¬ F x):BrAt u ks b vk Dk D W':=
 ⟨h.mem,h.blk.keeps k (hF b h.mem),fun i e=>⟨(h.kid i e).1.keeps k _ _ _ (fun x o=>hF x ((h.kid i e).2.2 x o)),(h.kid i e).2⟩,h.apart,fun x o=>bQ (h.lt x o) k.size⟩
theorem BrAt.val{u:vB}{ks:Nat->PA}{b:Nat}{vk:Nat->vV}{Dk:Nat->Nat->Prop}{D:Nat->Prop}{W:vW}(h:BrAt u ks b vk Dk D W)(u':vB):BrAt u' ks b vk Dk D (W.setCell ⟨b,0,none⟩ (.string u')):=by
 have K:=jad.oneSet W ⟨b,0,none⟩ (.string u');have z:=h.blk.set_same (i:=0) (.string u');rw[jvy]at z
 exact⟨h.mem,z,fun i o=>⟨(h.kid i o).1.keeps K _ _ _ (fun x q e=>(h.kid i o).2.1 (by have e:x=b:=e;rw[<-e];exact q)),(h.kid i o).2⟩,h.apart,fun x q=>bQ (h.lt x q) K.size⟩
theorem BrAt.turn{u:vB}{ks:Nat->PA}{b:Nat}{vk:Nat->vV}{Dk:Nat->Nat->Prop}{D:Nat->Prop}{W W1:vW}(h:BrAt u ks b vk Dk D W){i:Nat}(hi:i < 16){P:PA}{v:vV}(k:jad (Dk i) W W1)(hP:PaAt P v (Grow (Dk i) W W1) W1) :
  BrAt u (setK ks i P) b (setV vk i v) (fun j=>if j=i then Grow (Dk i) W W1 else Dk j) (Grow D W W1) (W1.setCell ⟨b,1+i,none⟩ v):=by
 have K:=jad.oneSet W1 ⟨b,1+i,none⟩ v;have Q:=(h.blk.keeps k (h.kid i hi).2.1).set_same (i:=1+i) v;rw[jqx u vk hi]at Q;have X:=h.lt b h.mem
 refine⟨.inl h.mem,Q,fun j z=>?_,fun j l z O E x o q=>?_,fun x o=>?_⟩
 ·by_cases e:j=i
  ·subst e
   simp only[if_pos,jb6];rw[show setV vk j v j=v from if_pos rfl]
   refine⟨hP.keeps K _ _ _ (fun x o e=>?_),fun e=>?_,fun x o=>?_⟩
   ·have e:x=b:=e
    rw[e]at o;rcases o with o | o
    ·exact (h.kid j hi).2.1 o
    ·omega
   ·rcases e with e | e
    ·exact (h.kid j hi).2.1 e
    ·omega
   ·rcases o with o | o
    ·exact .inl ((h.kid j hi).2.2 x o)
    ·exact .inr o
  ·simp only[if_neg e]
   rw[jdY _ _ e,show setV vk i v j=vk j from if_neg e]
   refine⟨((h.kid j z).1.keeps k _ _ _ (fun x o q=>h.apart j i z hi e x o q)).keeps K _ _ _ (fun x o e=>?_),(h.kid j z).2.1,fun x o=>.inl ((h.kid j z).2.2 x o)⟩
   have e:x=b:=e;rw[e]at o;exact (h.kid j z).2.1 o
 ·have J:∀ m,m < 16->Dk m x->¬(W.heap.size<=x/\x < W1.heap.size):=fun m Z hd e=>by have:=h.lt x ((h.kid m Z).2.2 x hd);omega
  by_cases e:j=i
  ·subst e
   have H:Grow (Dk j) W W1 x:=by simpa using o
   have A:Dk l x:=by simpa [Ne.symm E]using q
   rcases H with H | H
   ·exact h.apart j l z O E x H A
   ·exact J l O A H
  ·have H:Dk j x:=by simpa [e]using o
   by_cases e2:l=i
   ·subst e2
    have A:Grow (Dk l) W W1 x:=by simpa using q
    rcases A with A | A
    ·exact h.apart j l z O E x H A
    ·exact J j z H A
   ·have A:Dk l x:=by simpa [e2]using q
    exact h.apart j l z O E x H A
 ·exact bQ (jeA h.lt k x o) K.size
theorem BrAt.turn_keeps{u:vB}{ks:Nat->PA}{b:Nat}{vk:Nat->vV}{Dk:Nat->Nat->Prop}{D:Nat->Prop}{W W1:vW}(h:BrAt u ks b vk Dk D W){i:Nat}(hi:i < 16)(k:jad (Dk i) W W1)(v:vV):jad D W (W1.setCell ⟨b,1+i,none⟩ v):=
 (k.mono (fun x _ o=>(h.kid i hi).2.2 x o)).trans' (jad.oneSet W1 ⟨b,1+i,none⟩ v) (fun x _ e=>by have e:x=b:=e;rw[e];exact h.mem)
theorem jrW(W:vW)(D:Nat->Prop)(p u:vB):vQ 279 #[.agg #[],.string p,.string u] W (PaTo D W (.leaf p u)):=by
 go_enter Tryz.func279,Tryz.ntmps279;go_wp2_with fail
 go_ret;have q:=((ExtR W).alloc (.cells #[] 244)).alloc (.cells #[.string p,.string u] 235);have o:=Blk.new (W.alloc (.cells #[] 244)) (.cells #[.string p,.string u] 235);rw[bN]at o;exact PaTo.mk1 ⟨_,rfl,.inr ⟨Nat.le_succ _,o.lt⟩,o⟩ (q.mono (fun _ _ e=>e.elim))
theorem jnD(W:vW)(D:Nat->Prop)(u0 u:vB)(ks:Nat->PA)(b:Nat)(h:PaO (.br u0 ks) (brV b) D W):vQ 264 #[.pointer (some ⟨b,0,none⟩),.string ⟨#[]⟩,.string u] W (fun e w'=>e=.returned (brV b)/\PaTo D W (.br u ks) e w'):=by
 obtain⟨A,E,hb⟩:=h.br
 have J:=hb.blk.cellL (i:=0) (v:=.string u0) vF;have O:W.frozen? ⟨b,0,none⟩=false:=hb.blk.frozen;have H:=Hd hb;have q:(⟨#[]⟩:vB).toList.isEmpty=true:=by rw[bX];rfl
 clear h hb;go_enter Tryz.func264,Tryz.ntmps264;go_wp2_with fail
 go_ret;have K:=jad.oneSet W ⟨b,0,none⟩ (.string u)
 exact⟨rfl,PaTo.mk1 ((H.o.val u).pa.at'.mono (fun x z=>.inl z)) (K.mono (fun x _ e=>by have e:x=b:=e;rw[e];exact H.o.mem))⟩
theorem jtd(W:vW)(D:Nat->Prop)(u0 u:vB)(ks:Nat->PA)(b:Nat)(h:PaO (.br u0 ks) (brV b) D W)(p:vB)(h0:p.size≠0)(hp:jaG p=true)(hs:p.size<=900000)(hn:(ks (jai p)).isNil=false)(hd:Dp (ks (jai p)) 900000)(hk:PutC (ks (jai p))) :
  vQ 264 #[.pointer (some ⟨b,0,none⟩),.string p,.string u] W (fun e w'=>e=.returned (brV b)/\PaTo D W (.br u0 (setK ks (jai p) (putP (ks (jai p)) (ja9 p) u))) e w'):=by
 obtain⟨vk,Dk,hb⟩:=h.br
 obtain⟨y,t,hy⟩:=jci h0
 obtain⟨e1,e2⟩:=jbE hy
 have q:=jcS hp h0
 obtain⟨g0,a5⟩:=jgj hy
 have b0:=jcU h0;have O:=jbK hp;have a2:(ja9 p).size<=900000:=by unfold ja9;rw[jaY];omega
 have hI:jai p=(p[0]'g0).toNat:=by rw[e1,a5]
 have H:=hb.kid (jai p) q
 obtain⟨T,x,Z⟩:=H.1.form hn
 have q1:=hb.blk.cellL (jeu u0 vk q);rw[Z]at q1;have HK:=Hd hk;have HB:=Hd hb;have HM:=Hd ((show PaAt (ks (jai p)) (.iface T x) (Dk (jai p)) W by rw[<-Z];exact H.1).meth);have a7:=Hd (show PaAt (ks (jai p)) (.iface T x) (Dk (jai p)) W by rw[<-Z];exact H.1);have a8:=Hd hd;clear hb H hk hd;have a0:=Hd (show ∀ Q,Ext W Q->vQ (jkq (ks (jai p))) #[x,.string (ja9 p),.string u] Q (PaTo (Dk (jai p)) Q (putP (ks (jai p)) (ja9 p) u))from fun Q e=>HK.o Q T x _ _ _ ⟨a7.o.keeps e _ _ _ (fun _ _ e=>e),fun z hz=>bQ (HB.o.lt z ((HB.o.kid _ q).2.2 z hz)) e.size⟩ a2 O a8.o);have hQ:=jmQ T x;have Q1:=Hd q1;have a9:=Hd (show ¬(Dk (jai p) b\/W.heap.size<=b)from fun e=>e.elim (HB.o.kid _ q).2.1 (fun e=>by have:=HB.o.lt b HB.o.mem;omega));have a3:=Hd hI;have A:=Hd q;have b1:=Hd (bB O a2);have c1:(0:Int) < (p.size:Int):=vO
 have c2:((p[0]'g0).toNat:Int) < 16:=vO
 have c3:(1:Int)<=(p.size:Int):=vO
 rw[hI]at q1;have a6:(p[0]'g0).toNat < 16:=vO
 obtain⟨i,hi⟩:=vE (p[0]'g0).toNat
 have b2:=Hd hi;clear h Z hy e1 e2 h0 hp hn a5 O a2 q hI hi;go_enter Tryz.func264,Tryz.ntmps264;go_wp2_with fail
 refine jc5 [0,1,2,3,4,5,6,7,8,9,10,11,12,14,15,13,16] 17 [13] Ext (jad (fun z=>Dk (jai p) z\/W.heap.size<=z)) ExtR ExtT (fun x y z h k=>jad.trans h k) (fun x y h=>h.mono (fun _ _ h=>h.elim)) vY vY vY ?_;iterate 4 refine vZ ?_
 refine jcx _ ((.pointer (some ⟨b,0,none⟩))) rfl vY rfl (fun w1=>by kernel_rfl) ?_;refine vS ?_;iterate 2 refine vZ ?_
 refine jgr ⟨b,1+(p[0]'g0).toNat,none⟩ _ rfl vY vY rfl rfl (fun w1 h1=>jaw (fun w=>by kernel_rfl) (by rw[<-a3.o];exact jaD Q1.o (((jad.refl (fun z=>Dk (jai p) z\/W.heap.size<=z) W).drew).trans h1) (by exact a9.o))) ?_;refine vS ?_;iterate 3 refine vZ ?_
 refine jcx _ (.iface T x) rfl vY rfl (fun w1=>by kernel_rfl) ?_;refine vS ?_
 refine vZ ?_
 refine jcx _ ((.pointer (some ⟨b,0,none⟩))) rfl vY rfl (fun w1=>by kernel_rfl) ?_;refine vS ?_
 refine vZ ?_
 refine jgp _ rfl vY rfl (fun Q hb K hK=>?_);have kb:Ext W Q:=(jam _).trans hb;refine jbD (jcz (f:=jkq (ks (jai p))) (vs:=#[.string (ja9 p),.string u]) rfl (HM.o.put _) (jh9 _) vY) ?_;refine (a0.o Q kb).mono ?_;rintro e w2 ⟨v2,rfl,X,J⟩
 refine⟨v2,rfl,hK _ _ (J.mono (fun z _ hz=>.inl hz)) ?_⟩
 have HS:=Hd (bB kb (bB X J));clear hK K hb kb X J;refine vS ?_
 refine vZ ?_
 refine jgq _ rfl vY rfl (fun wc hc K hK=>?_)
 obtain⟨hb,X,J⟩:=HS.o
 have E:=HB.o.keeps (F:=fun _=>False) (hb) (fun _ _ e=>e);have kc:jad (Dk (jai p)) Q wc:=J.trans (hc.mono (fun _ _ e=>e.elim));have a4:PaAt (putP (ks (jai p)) (ja9 p) u) v2 (Grow (Dk (jai p)) Q wc) wc:=(X.keeps hc _ _ _ (fun _ _ e=>e)).mono (fun z hz=>hz.imp id (fun e=>⟨e.1,bQ e.2 hc.size⟩))
 obtain⟨T2,x2,rfl⟩:=a4.form (jiw _ _ _)
 have ht:=E.turn A.o kc a4;have a1:=E.turn_keeps A.o kc (.iface T2 x2)
 obtain⟨old,q7⟩:∃ v,wc.cell? ⟨b,1+jai p,none⟩=some v:=⟨_,(E.blk.keeps kc (E.kid _ A.o).2.1).cellL (bA (by rw[jgP];have:=A.o;omega))⟩
 have f7:wc.frozen? ⟨b,1+jai p,none⟩=false:=(E.blk.keeps kc (E.kid _ A.o).2.1).frozen;have HT:=Hd (bB ht (bB a1 hb));rw[a3.o]at q7 f7;clear hb X J E kc a4 ht a1 hc;go_simp;refine hK _ _ ?_;clear hK K q7 f7;go_wp2_with fail
 go_ret
 obtain⟨ht,a1,hb⟩:=HT.o
 rw[<-a3.o]
 exact⟨rfl,PaTo.mk1 (ht.pa.at'.mono (fun z hz=>hz.imp id (fun e=>⟨bK hb.size e.1,bQ e.2 (jad.oneSet wc ⟨b,1+jai p,none⟩ (.iface T2 x2)).size⟩))) (((hb.mono (fun _ _ e=>e.elim)):jad D W Q).trans a1)⟩
theorem jnC(W:vW)(D:Nat->Prop)(u0 u:vB)(ks:Nat->PA)(b:Nat)(h:PaO (.br u0 ks) (brV b) D W)(p:vB)(h0:p.size≠0)(hp:jaG p=true)(hs:p.size<=900000)(hn:(ks (jai p)).isNil=true) :
  vQ 264 #[.pointer (some ⟨b,0,none⟩),.string p,.string u] W (fun e w'=>e=.returned (brV b)/\PaTo D W (.br u0 (setK ks (jai p) (.leaf (ja9 p) u))) e w'):=by
 obtain⟨vk,Dk,hb⟩:=h.br
 obtain⟨y,t,hy⟩:=jci h0
 obtain⟨e1,e2⟩:=jbE hy
 have q:=jcS hp h0
 obtain⟨g0,a9⟩:=jgj hy
 have b9:=jcU h0;have a2:=jbK hp;have b0:(ja9 p).size<=900000:=by unfold ja9;rw[jaY];omega
 have hI:jai p=(p[0]'g0).toNat:=by rw[e1,a9]
 have a3:=hb.kid (jai p) q;have b1:vk (jai p)=.nilIface:=by have:=a3.1;rw[jbh hn]at this;exact this
 have q1:=hb.blk.cellL (jeu u0 vk q);rw[b1]at q1;have f1:W.frozen? ⟨b,1+jai p,none⟩=false:=hb.blk.frozen
 obtain⟨W1,J⟩:=vE (W.setCell ⟨b,1+jai p,none⟩ noV)
 have X:=hb.turn q (P:=.no) (v:=noV) (jad.refl _ W) rfl;rw[<-J]at X
 obtain⟨O,a4⟩:=vE (fun j=>if j=jai p then Grow (Dk (jai p)) W W else Dk j)
 obtain⟨b6,Z⟩:=vE (setK ks (jai p) .no)
 have a5:setK b6 (jai p) (.leaf (ja9 p) u)=setK ks (jai p) (.leaf (ja9 p) u):=by
  funext j;unfold setK;rw[Z];unfold setK
  by_cases e:j=jai p
  ·rw[if_pos e,if_pos e]
  ·rw[if_neg e,if_neg e,if_neg e]
 rw[<-a4, <-Z]at X;have b2:W1.cell? ⟨b,1+jai p,none⟩=some noV:=by
  have:=X.blk.cellL (jeu u0 _ q)
  rw[this];show some (setV vk (jai p) noV (jai p))=_;unfold setV;rw[if_pos rfl]
 have c0:=Hd J;have b7:=Hd a5;have b3:Hid (∀ z,Grow D W W z->D z):=(fun z H=>H.elim id (fun e=>by omega));have b4:=Hd (show jad D W W1 by rw[J];exact (jad.oneSet W ⟨b,1+jai p,none⟩ noV).mono (fun z _ e=>by have e:z=b:=e;rw[e];exact hb.mem));have HB:=Hd X;have Q1:=Hd b2;clear a4 Z X b2 a5 hb a3;unfold noV at J Q1;have a0:=Hd (show ∀ wb,Ext W1 wb->vQ 279 #[.agg #[],.string (ja9 p),.string u] wb (PaTo (O (jai p)) wb (.leaf (ja9 p) u))from fun wb _=>jrW wb _ _ _);have b8:=Hd (show ¬(O (jai p) b\/W1.heap.size<=b)from fun e=>e.elim (HB.o.kid _ q).2.1 (fun e=>by have:=HB.o.lt b HB.o.mem;omega));have a7:=Hd hI;have A:=Hd q;have c4:=Hd (bB a2 b0);have c1:(0:Int) < (p.size:Int):=vO
 have c2:((p[0]'g0).toNat:Int) < 16:=vO
 have c3:(1:Int)<=(p.size:Int):=vO
 rw[hI]at q1 f1 J;have b5:(p[0]'g0).toNat < 16:=vO
 obtain⟨i,hi⟩:=vE (p[0]'g0).toNat
 have c5:=Hd hi;clear h b1 hy e1 e2 h0 hp hn a9 a2 b0 q hI hi;go_enter Tryz.func264,Tryz.ntmps264;go_wp2_with fail
 rw[<-J];refine jc5 [0,1,2,3,4,5,6,7,8,9,10,11,12,14,15,13,16] 17 [13] Ext (jad (fun z=>O (jai p) z\/W1.heap.size<=z)) ExtR ExtT (fun x y z h k=>jad.trans h k) (fun x y h=>h.mono (fun _ _ h=>h.elim)) vY vY vY ?_;iterate 4 refine vZ ?_
 refine jcx _ ((.pointer (some ⟨b,0,none⟩))) rfl vY rfl (fun w1=>by kernel_rfl) ?_;refine vS ?_;iterate 2 refine vZ ?_
 refine jgr ⟨b,1+(p[0]'g0).toNat,none⟩ _ rfl vY vY rfl rfl (fun w1 h1=>jaw (fun w=>by kernel_rfl) (by rw[<-a7.o];exact jaD Q1.o (((jad.refl (fun z=>O (jai p) z\/W1.heap.size<=z) W1).drew).trans h1) (by exact b8.o))) ?_;refine vS ?_;iterate 3 refine vZ ?_
 refine jcx _ (.iface 244 (.agg #[])) rfl vY rfl (fun w1=>by kernel_rfl) ?_;refine vS ?_
 refine vZ ?_
 refine jcx _ ((.pointer (some ⟨b,0,none⟩))) rfl vY rfl (fun w1=>by kernel_rfl) ?_;refine vS ?_
 refine vZ ?_
 refine jgp _ rfl vY rfl (fun wb hb K hK=>?_);have kb:Ext W1 wb:=(jam _).trans hb;refine jbD (jcz (f:=279) (vs:=#[.string (ja9 p),.string u]) rfl (jwa.put _) (fun args w=>by kernel_rfl) vY) ?_;refine (a0.o wb kb).mono ?_;rintro e w2 ⟨v2,rfl,a1,Q⟩
 refine⟨v2,rfl,hK _ _ (Q.mono (fun z _ H=>.inl H)) ?_⟩
 have HS:=Hd (bB kb (bB a1 Q));clear hK K hb kb a1 Q;refine vS ?_
 refine vZ ?_
 refine jgq _ rfl vY rfl (fun wc hc K hK=>?_)
 obtain⟨hb,a1,Q⟩:=HS.o
 have E:=HB.o.keeps (F:=fun _=>False) (hb) (fun _ _ e=>e);have kc:jad (O (jai p)) wb wc:=Q.trans (hc.mono (fun _ _ e=>e.elim));have a8:PaAt (PA.leaf (ja9 p) u) v2 (Grow (O (jai p)) wb wc) wc:=(a1.keeps hc _ _ _ (fun _ _ e=>e)).mono (fun z H=>H.imp id (fun e=>⟨e.1,bQ e.2 hc.size⟩))
 obtain⟨T2,x2,rfl⟩:=a8.form rfl
 have ht:=E.turn A.o kc a8;have a6:=E.turn_keeps A.o kc (.iface T2 x2)
 obtain⟨old,q7⟩:∃ v,wc.cell? ⟨b,1+jai p,none⟩=some v:=⟨_,(E.blk.keeps kc (E.kid _ A.o).2.1).cellL (bA (by rw[jgP];have:=A.o;omega))⟩
 have f7:wc.frozen? ⟨b,1+jai p,none⟩=false:=(E.blk.keeps kc (E.kid _ A.o).2.1).frozen;have HT:=Hd (bB ht (bB a6 hb));rw[a7.o]at q7 f7;clear hb a1 Q E kc a8 ht a6 hc;go_simp;refine hK _ _ ?_;clear hK K q7 f7;go_wp2_with fail
 go_ret
 obtain⟨ht,a6,hb⟩:=HT.o
 rw[<-a7.o];have a5:=b7.o
 refine⟨rfl,PaTo.mk1 (PaAt.mono (fun z H=>?_) (by rw[<-a5];exact ht.pa.at')) ((b4.o.trans (hb.mono (fun _ _ e=>e.elim))).trans (a6.mono (fun z _ H=>b3.o z H)))⟩
 rcases H with H | H
 ·exact .inl (b3.o z H)
 ·exact .inr ⟨bK (bK b4.o.size hb.size) H.1,bQ H.2 (jad.oneSet wc ⟨b,1+jai p,none⟩ (.iface T2 x2)).size⟩
end
section
attribute [local go_sem] Oper.semAt_some
def AddP(D:Nat->Prop)(W:vW)(b:Nat)(P:PA)(e:Ending)(w':vW):Prop:=e=.returned (brV b)/\PaAt P (brV b) (Grow D W w') w'/\jad D W w'
theorem jjS(W:vW)(D:Nat->Prop)(v:vB)(ks:Nat->PA)(b:Nat)(h:PaO (.br v ks) (brV b) D W)(p u:vB)(hp:jaG p=true)(hs:p.size<=900000)(hf:∀ x t,p.data.toList=x :: t->(ks x.toNat).isNil=true) :
  vQ 264 #[.pointer (some ⟨b,0,none⟩),.string p,.string u] W (AddP D W b (addK (.br v ks) p u)):=by
 rw[jb7]
 by_cases h0:p.size=0
 ·rw[if_pos h0,jbp h0]
  refine (jnD W D v u ks b h).mono ?_;rintro e w' ⟨rfl,A,e,o,q⟩;injection e with e;subst e
  exact⟨rfl,o,q⟩
 ·rw[if_neg h0]
  obtain⟨x,t,z⟩:=jci h0
  refine (jnC W D v u ks b h p h0 hp hs (by rw[(jbE z).1];exact hf x t z)).mono ?_;rintro e w' ⟨rfl,A,e,o,q⟩;injection e with e;subst e
  exact⟨rfl,o,q⟩
theorem juP{W:vW}{b:Nat}(h:Blk W b (.cells #[.string ⟨#[]⟩,.nilIface,.nilIface,.nilIface,.nilIface,.nilIface,.nilIface,.nilIface,.nilIface,.nilIface,.nilIface,.nilIface,.nilIface,.nilIface,.nilIface,.nilIface,.nilIface] 242)) :
  BrAt ⟨#[]⟩ (fun _=>.nil) b (fun _=>.nilIface) (fun _ _=>False) (fun x=>x=b) W:=
 ⟨rfl,h,fun i _=>⟨rfl,fun e=>e,fun _ e=>e.elim⟩,fun _ _ _ _ _ _ e=>e.elim,fun x e=>by rw[e];exact h.lt⟩
theorem AddP.br{D:Nat->Prop}{W w':vW}{b:Nat}{P:PA}(h:PaAt P (brV b) (Grow D W w') w')(k:jad D W w')(hl:∀ x,D x->x < W.heap.size):PaO P (brV b) (Grow D W w') w':=⟨h,jeA hl k⟩
theorem jrw(W:vW)(D:Nat->Prop)(q v u:vB)(b:Nat)(o:Blk W b (.cells #[.string q,.string v] 235)):vQ 263 #[.pointer (some ⟨b,0,none⟩),.string q,.string u] W (PaTo D W (.leaf q u)):=by
 have A:=o.cell (i:=0) (v:=.string q) vF;clear o;have z:(q.toList == q.toList)=true:=by simp
 go_enter Tryz.func263,Tryz.ntmps263;go_wp2_with fail
 go_ret;have o:=Blk.new W (.cells #[.string q,.string u] 235);exact PaTo.mk1 ⟨_,rfl,.inr ⟨bM _,o.lt⟩,o⟩ (((ExtR W).alloc _).mono (fun _ _ e=>e.elim))
theorem juE(q p v:vB):(∀ x t,(q.extract (jaj q p) q.size).data.toList=x :: t->PA.isNil ((fun _=>PA.nil) x.toNat)=true)/\∃ v1 ks1,addK (.br ⟨#[]⟩ fun _=>.nil) (q.extract (jaj q p) q.size) v=.br v1 ks1/\∀ x t,(p.extract (jaj q p) p.size).data.toList=x :: t->(ks1 x.toNat).isNil=true:=by
 refine⟨fun _ _ _=>rfl,?_⟩
 obtain⟨J,K,Z,hb,o,z,A⟩:=jcC q.data.toList p.data.toList
 have e:(q.extract (jaj q p) q.size).data.toList=J:=by rw[jdi,o];rfl
 have E:(p.extract (jaj q p) p.size).data.toList=K:=by rw[jdi,z];rfl
 obtain⟨O,Q⟩:∃ x,x=q.extract (jaj q p) q.size:=⟨_,rfl⟩
 rw[<-Q]at e ⊢;rw[jb7]
 by_cases h0:O.size=0
 ·rw[if_pos h0];exact⟨_,_,rfl,fun _ _ _=>rfl⟩
 ·rw[if_neg h0]
  refine⟨_,_,rfl,fun y t X=>?_⟩
  obtain⟨x,s,H⟩:=jci h0
  unfold setK;rw[(jbE H).1,if_neg (jc4 (Ne.symm (A x s y t (by rw[<-e,H]) (by rw[<-E,X]))))];rfl
theorem jpG(W:vW)(D:Nat->Prop)(q v p u:vB)(b:Nat)(hB:Blk W b (.cells #[.string q,.string v] 235))(hne:p≠q)(hq:jaG q=true)(hp:jaG p=true)(hqs:q.size<=900000)(hps:p.size<=900000) :
  vQ 263 #[.pointer (some ⟨b,0,none⟩),.string p,.string u] W (PaTo D W (putP (.leaf q v) p u)):=by
 have q0:=hB.cell (i:=0) (v:=.string q) vF;have Q0:=Hd q0;have Q1:=Hd (hB.cell (i:=1) (v:=.string v) vF);have HB:=Hd hB;have d3:(p.toList == q.toList)=false:=by rw[jft];exact decide_eq_false hne
 obtain⟨c1,c2⟩:=jd4 q p
 have Q:putP (.leaf q v) p u=jbY (p.extract 0 (jaj q p)) (addK (addK (.br ⟨#[]⟩ fun _=>.nil) (q.extract (jaj q p) q.size) v) (p.extract (jaj q p) p.size) u):=by
  show (if p=q then PA.leaf p u else _)=_;rw[if_neg hne]
 have X:=juE q p v;have Z:=fun w=>jfn w q p vO vO
 obtain⟨m,hm⟩:=vE (jaj q p)
 rw[<-hm]at c1 c2 Q X Z;rw[Q];have b0:(q.extract m q.size).size<=900000:=by rw[jaY];omega
 have b1:(p.extract m p.size).size<=900000:=by rw[jaY];omega
 have b2:(p.extract 0 m).size<=900000:=by rw[cS];omega
 have b3:jaG (q.extract m q.size)=true:=jbk hq _ _;have b4:jaG (p.extract m p.size)=true:=jbk hp _ _
 obtain⟨E,v1,a1,e1,H⟩:=X
 have b5:Dp (addK (.br v1 a1) (p.extract m p.size) u) 1000000:=jh4 (by rw[<-e1];exact jh4 (jht _ _) vO _) vO _;have b6:(addK (.br v1 a1) (p.extract m p.size) u).isNil=false:=by rw[jb7];split <;> rfl
 rw[e1];have HF:=Hd (bB (bB E (bB e1 H)) (bB b0 (bB b1 (bB b2 (bB b3 b4)))));have b7:=Hd (bB b5 b6);have HC:=Hd Z;have d4:(m:Int)<=(q.size:Int):=vO
 have d5:(m:Int)<=(p.size:Int):=vO
 clear hB hne hq hp Q hm E H e1 b5 b6 b0 b1 b2 b3 b4 Z;go_enter Tryz.func263,Tryz.ntmps263;go_wp2_with fail
 refine (HC.o _).mono ?_;rintro e w1 ⟨rfl,n,rfl⟩;go_wp2_with fail
 obtain⟨A,a2⟩:=vE W.heap.size
 obtain⟨W2,a3⟩:=vE ((W.drewN n).alloc (.cells #[.string ⟨#[]⟩,.nilIface,.nilIface,.nilIface,.nilIface,.nilIface,.nilIface,.nilIface,.nilIface,.nilIface,.nilIface,.nilIface,.nilIface,.nilIface,.nilIface,.nilIface,.nilIface] 242))
 have b8:Ext W W2:=by rw[a3];exact ((ExtR W).drewN n).alloc _
 have b9:BrAt ⟨#[]⟩ (fun _=>.nil) A (fun _=>.nilIface) (fun _ _=>False) (fun x=>x=A) W2:=by rw[a3,a2];exact juP (Blk.new (W.drewN n) _)
 have c0:W.heap.size<=A:=by rw[a2];exact bM _
 have a4:=Hd b8;have c3:=Hd b9;have a8:=Hd c0;have c4:=Hd (show ¬ W.heap.size<=b from by have:=HB.o.lt;omega);rw[<-a3, <-a2];clear a2 a3 b8 b9 c0;refine ja0 [0,1,2,3,4,5,6,7,8,9,10,11] [11] Ext (jad (fun z=>W.heap.size<=z)) ExtR ExtT (fun x y z h k=>jad.trans h k) (fun x y h=>h.mono (fun _ _ h=>h.elim)) vY vY vY ?_;iterate 2 refine vD ?_
 refine qDV _ ((.pointer (some ⟨b,0,none⟩))) rfl (fun w1 _=>by kernel_rfl) ?_;refine vS ?_
 refine vD ?_
 refine qDL ⟨b,0,none⟩ _ rfl (fun w1 h1=>jaw (fun w=>by kernel_rfl) (jaD (jaa Q0.o a4.o) (((jad.refl (fun z=>W.heap.size<=z) W2).drew).trans h1) (by exact c4.o))) ?_;refine vS ?_;iterate 3 refine vD ?_
 refine qDV _ ((.pointer (some ⟨b,0,none⟩))) rfl (fun w1 _=>by kernel_rfl) ?_;refine vS ?_
 refine vD ?_
 refine qDL ⟨b,1,none⟩ _ rfl (fun w1 h1=>jaw (fun w=>by kernel_rfl) (jaD (jaa Q1.o a4.o) (((jad.refl (fun z=>W.heap.size<=z) W2).drew).trans h1) (by exact c4.o))) ?_;refine vS ?_;refine qDH _ rfl (fun wb hb K hK=>?_);have kb:Ext W2 wb:=(jam _).trans hb
 obtain⟨E,e1,H⟩:=HF.o.1
 refine jbD (jaB (vX 264) vY) ((jjS wb (fun x=>x=A) ⟨#[]⟩ (fun _=>.nil) A ((c3.o.keeps kb (fun _ _ e=>e)).pa) (q.extract m q.size) v HF.o.2.2.2.2.1 HF.o.2.1 E).mono ?_);rintro e w3 ⟨rfl,J,O⟩
 refine⟨_,rfl,hK _ _ (O.mono (fun z _ e=>by have e:z=A:=e;rw[e];exact a8.o)) ?_⟩
 rw[e1]at J;have HS:=Hd (bB kb (bB J O));clear hK K hb kb J O e1;refine vS ?_;refine jco vY (fun wc hc=>?_)
 obtain⟨kb,J,O⟩:=HS.o
 have kc:jad (fun x=>x=A) wb wc:=O.trans (hc.mono (fun _ _ e=>e.elim));have c5:PaAt (.br v1 a1) (brV A) (Grow (fun x=>x=A) wb wc) wc:=(J.keeps hc _ _ _ (fun _ _ e=>e)).mono (fun z hz=>hz.imp id (fun e=>⟨e.1,bQ e.2 hc.size⟩));have c6:=AddP.br c5 kc (fun x e=>by have e:x=A:=e;rw[e];exact bQ c3.o.blk.lt kb.size);have c7:Ext W wc:=(a4.o.trans kb).trans' kc (fun x hx e=>by have e:x=A:=e;have:=a8.o;omega);have a5:=Hd (bB c6 c7);have c8:Hid (∀ x,Grow (fun x=>x=A) wb wc x->W.heap.size<=x):=(fun x hx=>hx.elim (fun e=>by rw[e];exact a8.o) (fun e=>bK (bK a4.o.size kb.size) e.1));clear hc kb J O kc c5 c6 c7 HS;go_wp2_with fail
 obtain⟨E,e1,H⟩:=HF.o.1
 refine (jjS wc _ v1 a1 A a5.o.1 (p.extract m p.size) u HF.o.2.2.2.2.2 HF.o.2.2.1 H).mono ?_;rintro e w4 ⟨rfl,c9,a9⟩;have d0:=AddP.br c9 a9 a5.o.1.lt;have d1:Ext W w4:=a5.o.2.trans' a9 (fun x hx e=>by have:=c8.o x e;omega);have d2:Hid (∀ x,Grow (Grow (fun x=>x=A) wb wc) wc w4 x->W.heap.size<=x):=fun x hx=>hx.elim (c8.o x) (fun e=>bK a5.o.2.size e.1);have a6:=Hd (bB d0 d1);clear c9 a9 d0 d1 e1 E H;unfold brV;go_wp2_with fail
 refine (pj_c w4 _ (p.extract 0 m) _ (brV A) a6.o.1 b7.o.2 (by have:=HF.o.2.2.2.1;omega) b7.o.1).mono ?_;rintro e w5 ⟨v5,rfl,a7,a0⟩;have HZ:=Hd (bB a7 a0);clear a7 a0;go_wp2_with fail
 go_ret
 obtain⟨a7,a0⟩:=HZ.o
 exact PaTo.mk1 (a7.mono (fun x hx=>.inr ⟨hx.elim (d2.o x) (fun e=>bK a6.o.2.size e.1),(jeA a6.o.1.lt a0) x hx⟩)) ((a6.o.2.trans a0).mono (fun _ _ e=>e.elim))
theorem BrAt.give{u:vB}{ks:Nat->PA}{b:Nat}{vk:Nat->vV}{Dk:Nat->Nat->Prop}{D E:Nat->Prop}{W:vW}(h:BrAt u ks b vk Dk D W){i:Nat}(hi:i < 16){P:PA}{v:vV}(hP:PaAt P v E W)(hE:∀ x,E x->¬ D x/\x < W.heap.size) :
  BrAt u (setK ks i P) b (setV vk i v) (fun j=>if j=i then E else Dk j) (fun x=>D x\/E x) (W.setCell ⟨b,1+i,none⟩ v):=by
 have K:=jad.oneSet W ⟨b,1+i,none⟩ v;have O:=h.blk.set_same (i:=1+i) v;rw[jqx u vk hi]at O
 refine⟨.inl h.mem,O,fun j q=>?_,fun j l q Q A x o z=>?_,fun x o=>?_⟩
 ·by_cases e:j=i
  ·subst e
   simp only[if_pos,jb6];rw[show setV vk j v j=v from if_pos rfl]
   refine⟨hP.keeps K _ _ _ (fun x o e=>?_),fun e=>(hE b e).1 h.mem,fun x o=>.inr o⟩
   have e:x=b:=e;rw[e]at o;exact (hE b o).1 h.mem
  ·simp only[if_neg e]
   rw[jdY _ _ e,show setV vk i v j=vk j from if_neg e]
   refine⟨(h.kid j q).1.keeps K _ _ _ (fun x o e=>?_),(h.kid j q).2.1,fun x o=>.inl ((h.kid j q).2.2 x o)⟩
   have e:x=b:=e;rw[e]at o;exact (h.kid j q).2.1 o
 ·by_cases e:j=i
  ·subst e
   have J:E x:=by simpa using o
   have H:Dk l x:=by simpa [Ne.symm A]using z
   exact (hE x J).1 ((h.kid l Q).2.2 x H)
  ·have J:Dk j x:=by simpa [e]using o
   by_cases e2:l=i
   ·subst e2
    have H:E x:=by simpa using z
    exact (hE x H).1 ((h.kid j q).2.2 x J)
   ·have H:Dk l x:=by simpa [e2]using z
    exact h.apart j l q Q A x J H
 ·rcases o with o | o
  ·exact bQ (h.lt x o) K.size
  ·exact bQ (hE x o).2 K.size
theorem jvW{q:vB}{m:Nat}(h:m < q.size):jai (q.extract m q.size)=(q[m]).toNat:=by
 unfold jai;have e:m < q.data.toList.length:=by rw[jaK];exact h
 rw[jdi,iG e];rfl
theorem jvL(W:vW)(D:Nat->Prop)(q:vB)(n:PA)(T:TypeId)(x:vV)(Dn:Nat->Prop)(b:Nat)(hB:Blk W b (.cells #[.string q,.iface T x] 238))(hv:PaAt n (.iface T x) Dn W)(hbn:¬ Dn b)(hD:∀ x,Dn x->D x/\x < W.heap.size)(p u:vB)(hq:jaG q=true)(hp:jaG p=true)(hqs:q.size<=900000)(hps:p.size<=900000)(X:Dp n 900000)(hk:PutC n)(hnil:n.isNil=false)(hf:jaj q p=q.size) :
  vQ 269 #[.pointer (some ⟨b,0,none⟩),.string p,.string u] W (PaTo D W (jbY q (putP n (p.extract q.size p.size) u))):=by
 have q0:=hB.cell (i:=0) (v:=.string q) vF;have q1:=hB.cell (i:=1) (v:=.iface T x) vF;have Q0:=Hd q0;have Q1:=Hd q1;have HB:=Hd hB;have HV:=Hd hv;have HD:Hid (∀ z,Dn z->D z/\z < W.heap.size):=hD
 obtain⟨c1,c2⟩:=jd4 q p
 have J:=fun w=>jfn w q p vO vO;rw[hf]at c1 c2 J;have HC:=Hd J;have a9:=hB.lt;have a5:=Hd (show ¬(Dn b\/W.heap.size<=b)from fun e=>e.elim hbn (fun e=>by omega));have a1:jaG (p.extract q.size p.size)=true:=jbk hp _ _;have a3:(p.extract q.size p.size).size<=900000:=by rw[jaY];omega
 have HM:=Hd hv.meth;have a0:=Hd (show ∀ O,Ext W O->vQ (jkq n) #[x,.string (p.extract q.size p.size),.string u] O (PaTo Dn O (putP n (p.extract q.size p.size) u))from fun O e=>hk O T x Dn _ _ ⟨hv.keeps e _ _ _ (fun _ _ e=>e),fun z A=>bQ (hD z A).2 e.size⟩ a3 a1 X);have b0:Hid (Dp (putP n (p.extract q.size p.size) u) 1000000):=(jce _ _ _ (jnO n 900000 _ u X a3) vO);have b2:(q.size:Int)<=(p.size:Int):=vO
 have b3:((q.size:Int) ==(q.size:Int))=true:=by simp
 clear hB hv hbn hD hq hp X hk hf a1 a3 J a9;go_enter Tryz.func269,Tryz.ntmps269;go_wp2_with fail
 refine (HC.o _).mono ?_;rintro e w1 ⟨rfl,k,rfl⟩;have a6:=Hd (show jad (fun z=>Dn z\/W.heap.size<=z) W ((W.drewN k).drew)from((jad.refl _ W).drewN k).drew);go_wp2_with fail
 refine ja0 [0,1,2,3,4,5,6,7,8,9,10,11,12,13,14,15,16] [14,15] Ext (jad (fun z=>Dn z\/W.heap.size<=z)) ExtR ExtT (fun x y z h k=>jad.trans h k) (fun x y h=>h.mono (fun _ _ h=>h.elim)) vY vY vY ?_
 refine vD ?_
 refine qDV _ ((.pointer (some ⟨b,0,none⟩))) rfl (fun w1 _=>by kernel_rfl) ?_;refine vS ?_
 refine vD ?_
 refine qDL ⟨b,0,none⟩ _ rfl (fun w1 h1=>jaw (fun w=>by kernel_rfl) (jaD Q0.o (a6.o.trans h1) (by exact a5.o))) ?_;refine vS ?_
 refine vD ?_
 refine qDV _ ((.pointer (some ⟨b,0,none⟩))) rfl (fun w1 _=>by kernel_rfl) ?_;refine vS ?_
 refine vD ?_
 refine qDL ⟨b,1,none⟩ _ rfl (fun w1 h1=>jaw (fun w=>by kernel_rfl) (jaD Q1.o (a6.o.trans h1) (by exact a5.o))) ?_;refine vS ?_;iterate 4 refine vD ?_
 refine qDV _ (.iface T x) rfl (fun w1 _=>by kernel_rfl) ?_;refine vS ?_
 refine vD ?_
 refine qDH _ rfl (fun O hb K hK=>?_);have Z:Ext W O:=(((ExtR W).drewN k).drew).trans hb;refine jbD (jcz (f:=jkq n) (vs:=#[.string (p.extract q.size p.size),.string u]) rfl (HM.o.put _) (jh9 _) vY) ?_;refine (a0.o O Z).mono ?_;rintro e w2 ⟨v2,rfl,Q,E⟩
 refine⟨v2,rfl,hK _ _ (E.mono (fun z _ A=>.inl A)) ?_⟩
 have HS:=Hd (bB Z (bB Q E));clear hK K hb Z Q E;refine vS ?_;refine qDH _ rfl (fun wc hc K hK=>?_)
 obtain⟨Z,Q,E⟩:=HS.o
 have kc:jad Dn O wc:=E.trans (hc.mono (fun _ _ e=>e.elim));have a7:PaAt (putP n (p.extract q.size p.size) u) v2 (Grow Dn O wc) wc:=(Q.keeps hc _ _ _ (fun _ _ e=>e)).mono (fun z A=>A.imp id (fun e=>⟨e.1,bQ e.2 hc.size⟩));have a4:=PaTo.own a7 kc (fun z A=>bQ (HD.o z A).2 Z.size);refine jbD (jaB (vX 265) vY) ((pj_c wc _ q _ v2 a4 (jiw _ _ _) vO b0.o).mono ?_);rintro e w5 ⟨v5,rfl,a2,H⟩
 refine⟨v5,rfl,hK _ _ (H.mono (fun _ _ e=>e.elim)) ?_⟩
 have HZ:=Hd (bB kc (bB a2 (bB H (jeA a4.lt H))));clear hK K hc Z Q E kc a7 a4 a2 H;refine vS ?_
 refine vD ?_
 refine jco vY (fun wd X=>?_);have HQ:=Hd X;clear X;go_wp2_with fail
 go_ret
 obtain⟨Z,_,_⟩:=HS.o
 obtain⟨kc,a2,H,b1⟩:=HZ.o
 have X:=HQ.o;refine PaTo.mk1 ((a2.keeps X _ _ _ (fun _ _ e=>e)).mono (fun z A=>?_)) (((Z.mono (fun _ _ e=>e.elim):jad D W O).trans (kc.mono (fun z _ A=>(HD.o z A).1))).trans ((H.trans X).mono (fun _ _ e=>e.elim)));have a8:=bQ (b1 z A) X.size;rcases A with (A | A) | A
 ·exact .inl (HD.o z A).1
 ·exact .inr ⟨bK Z.size A.1,a8⟩
 ·exact .inr ⟨bK (bK Z.size kc.size) A.1,a8⟩
theorem jtB(q p:vB)(n:PA)(h:jaj q p < q.size):∀ x t,(p.extract (jaj q p) p.size).data.toList=x :: t->(setK (fun _=>.nil) (jai (q.extract (jaj q p) q.size)) (jbY (q.extract (jaj q p+1) q.size) n) x.toNat).isNil=true:=by
 obtain⟨J,K,X,hb,e,o,z⟩:=jcC q.data.toList p.data.toList
 have A:(q.extract (jaj q p) q.size).data.toList=J:=by rw[jdi,e];rfl
 have E:(p.extract (jaj q p) p.size).data.toList=K:=by rw[jdi,o];rfl
 have O:(q.extract (jaj q p) q.size).size≠0:=by rw[jaY];omega
 intro y t Q
 obtain⟨x,s,H⟩:=jci O
 unfold setK;rw[(jbE H).1,if_neg (jc4 (Ne.symm (z x s y t (by rw[<-A,H]) (by rw[<-E,Q]))))];rfl
theorem jtz(W:vW)(D:Nat->Prop)(q:vB)(n:PA)(T:TypeId)(x:vV)(Dn:Nat->Prop)(b:Nat)(hB:Blk W b (.cells #[.string q,.iface T x] 238))(hv:PaAt n (.iface T x) Dn W)(hbn:¬ Dn b)(hD:∀ x,Dn x->D x/\x < W.heap.size)(p u:vB)(hq:jaG q=true)(hp:jaG p=true)(hqs:q.size<=900000)(hps:p.size<=900000)(hd:Dp n (900000 - q.size))(hnil:n.isNil=false)(hf:jaj q p≠q.size) :
  vQ 269 #[.pointer (some ⟨b,0,none⟩),.string p,.string u] W (PaTo D W (jbY (p.extract 0 (jaj q p)) (addK (.br ⟨#[]⟩ (setK (fun _=>.nil) (jai (q.extract (jaj q p) q.size)) (jbY (q.extract (jaj q p+1) q.size) n))) (p.extract (jaj q p) p.size) u))):=by
 have q0:=hB.cell (i:=0) (v:=.string q) vF;have q1:=hB.cell (i:=1) (v:=.iface T x) vF;have Q0:=Hd q0;have Q1:=Hd q1;have HB:=Hd hB;have HV:=Hd hv;have HD:Hid (∀ z,Dn z->D z/\z < W.heap.size):=hD
 obtain⟨c1,c2⟩:=jd4 q p
 have X:=fun w=>jfn w q p vO vO;have H:=jtB q p n (show jaj q p < q.size by omega)
 obtain⟨m,hm⟩:=vE (jaj q p)
 rw[<-hm]at c1 c2 X hf H ⊢;have HC:=Hd X;have d4:=hB.lt;have b2:=Hd (show ¬ W.heap.size<=b from by omega);have b8:m < q.size:=vO
 have b9:jai (q.extract m q.size) < 16:=jcS (jbk hq _ _) (by rw[jaY];omega);have b3:=jvW b8;have b4:=Hd (bB b9 b3);have c0:=Hd (bB (jbk hp m p.size) (show (p.extract m p.size).size<=900000 by rw[jaY];omega));have a5:=Hd (bB hnil (bB (show (q.extract (m+1) q.size).size<=900000 by rw[jaY];omega) hd));have c3:Dp (jbY (q.extract (m+1) q.size) n) (900000 - m - 1):=jfT (jce _ _ _ hd (by rw[jaY];omega)) (by rw[jaY];omega);have c4:Dp (addK (.br ⟨#[]⟩ (setK (fun _=>.nil) (jai (q.extract m q.size)) (jbY (q.extract (m+1) q.size) n))) (p.extract m p.size) u) (900000 - m):=jh4 (jh6 (jht ⟨#[]⟩ _) vO c3 _) (by rw[jaY];omega) _;have c5:(addK (.br ⟨#[]⟩ (setK (fun _=>.nil) (jai (q.extract m q.size)) (jbY (q.extract (m+1) q.size) n))) (p.extract m p.size) u).isNil=false:=by rw[jb7];split <;> rfl
 have c6:=Hd (bB c4 c5);have d5:=Hd H;have a3:(p.extract 0 m).size<=900000:=by rw[cS];omega
 have d6:=Hd a3;have d7:(m:Int)<=(q.size:Int):=vO
 have d8:(m:Int)<=(p.size:Int):=vO
 have d9:(m:Int) < (q.size:Int):=vO
 have e0:(m:Int)+1<=(q.size:Int):=vO
 have e1:((q[m]'b8).toNat:Int) < 16:=by rw[<-b3];omega
 have e2:((m:Int) ==(q.size:Int))=false:=by simp;omega
 clear hB hv hbn hD hq hp hd hf X d4 H b9 b3 c3 c4 c5 hnil hm a3;go_enter Tryz.func269,Tryz.ntmps269;go_wp2_with fail
 refine (HC.o _).mono ?_;rintro e w1 ⟨rfl,k,rfl⟩;go_wp2_with fail
 obtain⟨E,a6⟩:=vE W.heap.size
 obtain⟨W2,a7⟩:=vE ((W.drewN k).alloc (.cells #[.string ⟨#[]⟩,.nilIface,.nilIface,.nilIface,.nilIface,.nilIface,.nilIface,.nilIface,.nilIface,.nilIface,.nilIface,.nilIface,.nilIface,.nilIface,.nilIface,.nilIface,.nilIface] 242))
 have c7:Ext W W2:=by rw[a7];exact ((ExtR W).drewN k).alloc _
 have c8:BrAt ⟨#[]⟩ (fun _=>.nil) E (fun _=>.nilIface) (fun _ _=>False) (fun x=>x=E) W2:=by rw[a7,a6];exact juP (Blk.new (W.drewN k) _)
 have c9:W.heap.size<=E:=by rw[a6];exact bM _
 have J:=Hd c7;have a8:=Hd c8;have a9:=Hd c9;rw[<-a7, <-a6];clear a6 a7 c7 c8 c9;refine ja0 [0,1,2,3,4,5,6,7,8,9,10,11,12,13,14,15,16,17,19,20,18,21,22] [18,22] Ext (jad (fun z=>W.heap.size<=z)) ExtR ExtT (fun x y z h k=>jad.trans h k) (fun x y h=>h.mono (fun _ _ h=>h.elim)) vY vY vY ?_;iterate 2 refine vD ?_
 refine qDV _ ((.pointer (some ⟨b,0,none⟩))) rfl (fun w1 _=>by kernel_rfl) ?_;refine vS ?_
 refine vD ?_
 refine qDL ⟨b,0,none⟩ _ rfl (fun w1 h1=>jaw (fun w=>by kernel_rfl) (jaD (jaa Q0.o J.o) (((jad.refl (fun z=>W.heap.size<=z) W2).drew).trans h1) (by exact b2.o))) ?_;refine vS ?_;iterate 3 refine vD ?_
 refine qDV _ ((.pointer (some ⟨b,0,none⟩))) rfl (fun w1 _=>by kernel_rfl) ?_;refine vS ?_
 refine vD ?_
 refine qDL ⟨b,0,none⟩ _ rfl (fun w1 h1=>jaw (fun w=>by kernel_rfl) (jaD (jaa Q0.o J.o) (((jad.refl (fun z=>W.heap.size<=z) W2).drew).trans h1) (by exact b2.o))) ?_;refine vS ?_;iterate 4 refine vD ?_
 refine qDV _ ((.pointer (some ⟨b,0,none⟩))) rfl (fun w1 _=>by kernel_rfl) ?_;refine vS ?_
 refine vD ?_
 refine qDL ⟨b,1,none⟩ _ rfl (fun w1 h1=>jaw (fun w=>by kernel_rfl) (jaD (jaa Q1.o J.o) (((jad.refl (fun z=>W.heap.size<=z) W2).drew).trans h1) (by exact b2.o))) ?_;refine vS ?_;refine qDV _ ((.pointer (some ⟨E,0,none⟩))) rfl (fun w1 _=>by kernel_rfl) ?_;refine vS ?_
 refine vD ?_
 refine qDH _ rfl (fun wb hb K hK=>?_);have kb:Ext W2 wb:=(jam _).trans hb;have kw:Ext W wb:=J.o.trans kb;refine jbD (jaB (vX 265) vY) ((pj_c wb Dn (q.extract (m+1) q.size) n (.iface T x) ⟨HV.o.keeps kw _ _ _ (fun _ _ e=>e),fun z A=>bQ (HD.o z A).2 kw.size⟩ a5.o.1 (by have:=a5.o.2.1;omega) (jce _ _ _ a5.o.2.2 vO)).mono ?_);rintro e w3 ⟨v3,rfl,Z,O⟩
 refine⟨v3,rfl,hK _ _ (O.mono (fun _ _ e=>e.elim)) ?_⟩
 have HS:=Hd (bB kb (bB Z O));clear hK K hb kb Z O kw;refine vS ?_
 refine vD ?_
 refine qDH _ rfl (fun wc hc K hK=>?_)
 obtain⟨kb,Z,O⟩:=HS.o
 have b5:=Z.keeps hc _ _ _ (fun _ _ e=>e);have kc:Ext W2 wc:=(kb.trans O).trans hc
 obtain⟨T3,x3,rfl⟩:=b5.form (jdw a5.o.1)
 have a0:∀ z,Grow Dn wb w3 z->¬ z=E/\z < wc.heap.size:=fun z A=>by
  have h1:=a8.o.lt E rfl;have h2:=a9.o;have h3:=kb.size;have h4:=O.size;have h5:=hc.size;have h6:=J.o.size;rcases A with A | A
  ·have:=(HD.o z A).2;omega
  ·have:=A.1;have:=A.2;omega
 have hg:=(a8.o.keeps kc (fun _ _ e=>e)).give b4.o.1 b5 a0
 obtain⟨old,q7⟩:∃ v,wc.cell? ⟨E,1+jai (q.extract m q.size),none⟩=some v:=⟨_,(a8.o.keeps kc (fun _ _ e=>e)).blk.cellL (bA (by rw[jgP];have:=b4.o.1;omega))⟩
 have f7:wc.frozen? ⟨E,1+jai (q.extract m q.size),none⟩=false:=(a8.o.keeps kc (fun _ _ e=>e)).blk.frozen
 obtain⟨WW,a1⟩:=vE (wc.setCell ⟨E,1+jai (q.extract m q.size),none⟩ (.iface T3 x3))
 rw[<-a1]at hg;have Q:jad (fun z=>z=E) wc WW:=by rw[a1];exact jad.oneSet wc ⟨E,1+jai (q.extract m q.size),none⟩ (.iface T3 x3)
 have HG:=Hd (bB hg (bB Q (bB kc (bB a0 (show ∀ z,Grow Dn wb w3 z->D z\/W.heap.size<=z from fun z A=>A.elim (fun e=>.inl (HD.o z e).1) (fun e=>.inr (bK (bK J.o.size kb.size) e.1)))))));rw[b4.o.2]at q7 f7 a1;clear kb Z O b5 kc a0 hg hc;go_simp;rw[<-a1];refine hK _ _ (Q.mono (fun z _ e=>by have e:z=E:=e;rw[e];exact a9.o)) ?_;clear hK K q7 f7 a1 Q;refine jco vY (fun wd hd=>?_)
 obtain⟨hg,Q,kc,a0,d0⟩:=HG.o
 have d1:=hg.keeps hd (fun _ _ e=>e);have HX:=Hd (bB d1 (show Ext W wd from((J.o.trans kc).trans' Q (fun z A e=>by have e:z=E:=e;have:=a9.o;omega)).trans hd));have HY:Hid (∀ z,(z=E\/Grow Dn wb w3 z)->D z\/W.heap.size<=z):=(fun z A=>A.elim (fun e=>.inr (by rw[e];exact a9.o)) (d0 z));clear hg Q kc a0 d0 d1 hd;go_wp2_with fail
 refine (jjS wd _ ⟨#[]⟩ _ E HX.o.1.pa (p.extract m p.size) u c0.o.1 c0.o.2 d5.o).mono ?_;rintro e w4 ⟨rfl,d2,b6⟩;have d3:=AddP.br d2 b6 HX.o.1.lt;have a4:jad D W w4:=(HX.o.2.mono (fun _ _ e=>e.elim)).trans' b6 (fun z A e=>by
  rcases HY.o z e with h | h
  ·exact h
  ·omega)
 have b0:=Hd (bB d3 a4);clear d2 b6 d3 a4;unfold brV;go_wp2_with fail
 refine (pj_c w4 _ (p.extract 0 m) _ (brV E) b0.o.1 c6.o.2 (by have:=d6.o;omega) (jce _ _ _ c6.o.1 vO)).mono ?_;rintro e w5 ⟨v5,rfl,b1,a2⟩;have HZ:=Hd (bB b1 a2);clear b1 a2;go_wp2_with fail
 go_ret
 obtain⟨b1,a2⟩:=HZ.o
 refine PaTo.mk1 (b1.mono (fun z A=>?_)) (b0.o.2.trans (a2.mono (fun _ _ e=>e.elim)));have b7:=jeA b0.o.1.lt a2 z A;rcases A with (A | A) | A
 ·rcases HY.o z A with h | h
  ·exact .inl h
  ·exact .inr ⟨h,b7⟩
 ·exact .inr ⟨bK HX.o.2.size A.1,b7⟩
 ·exact .inr ⟨bK b0.o.2.size A.1,b7⟩
end
def VaP:PA->Prop
 | .nil=>True
 | .no=>True
 | .leaf q _=>jaG q=true
 | .ext q n=>jaG q=true/\VaP n
 | .br _ ks=>∀ i,VaP (ks i)
theorem jqE:∀ (P:PA),CanP P->VaP P
 | .nil,h=>h.elim
 | .no,h=>h.elim
 | .leaf q v,h=>h.1
 | .ext q n,h=>⟨h.2.1,jqE n h.2.2.2⟩
 | .br v ks,h=>fun i=>by
  cases hn:(ks i).isNil with
  | true=>rw[jbh hn];trivial
  | false=>exact jqE (ks i) (h.2.1 i hn)
theorem jnc:∀ (P:PA),VaP P->PutC P
 | .nil,_=>fun W T x D p u h _ _ _=>by cases h.at'
 | .no,_=>fun W T x D p u h _ _ _=>by
  have e:Value.iface T x=noV:=h.at';unfold noV at e;injection e with e1 e2;subst e1 e2;exact jrW W D p u
 | .leaf q v,hv=>fun W T x D p u h E H o=>by
  obtain⟨b,e,h1,J⟩:=h.at'
  unfold jiU at e;injection e with e1 e2;subst e1 e2
  by_cases hpq:p=q
  ·subst hpq
   show Calls _ _ _ W (PaTo D W (putP (.leaf p v) p u));unfold putP;rw[if_pos rfl];exact jrw W D p v u b J
  ·exact jpG W D q v p u b J hpq hv H o E
 | .ext q n,hv=>fun W T x D p u h E H o=>by
  obtain⟨b,Z,x',O,e,h1,J,Q,h4,h5⟩:=h.at'
  unfold extV at e;injection e with e1 e2;subst e1 e2;have A:n.isNil=false:=by
   cases n with
   | nil=>cases Q
   | _=>rfl
  have K:∀ z,O z->D z/\z < W.heap.size:=fun z hz=>⟨h5 z hz,h.lt z (h5 z hz)⟩
  by_cases hf:jaj q p=q.size
  ·have:=jvL W D q n Z x' O b J Q h4 K p u hv.1 H o.1 E (jce _ _ _ o.2 vO) (jnc n hv.2) A hf
   show Calls _ _ _ W (PaTo D W (putP (.ext q n) p u));unfold putP;rw[if_pos hf,hf];exact this
  ·have:=jtz W D q n Z x' O b J Q h4 K p u hv.1 H o.1 E o.2 A hf
   show Calls _ _ _ W (PaTo D W (putP (.ext q n) p u));unfold putP;rw[if_neg hf];exact this
 | .br v ks,hv=>fun W T x D p u h E H o=>by
  obtain⟨b,vk,Dk,e,_⟩:=h.at'
  have e0:=e;unfold brV at e;injection e with e1 e2;subst e1 e2;show Calls _ _ _ W (PaTo D W (putP (.br v ks) p u));unfold putP
  by_cases h0:p.size=0
  ·rw[if_pos h0,jbp h0]
   exact (jnD W D v u ks b h).mono fun e w' h=>h.2
  ·rw[if_neg h0]
   cases hk:(ks (jai p)).isNil with
   | true =>
    rw[jbh hk];exact (jnC W D v u ks b h p h0 H E hk).mono fun e w' h=>h.2
   | false =>
    have X:=o (jai p) hk;exact (jtd W D v u ks b h p h0 H E hk (jce _ _ _ X.2 vO) (jnc (ks (jai p)) (hv _))).mono fun e w' h=>h.2
def malE:vV:=.iface 28 (.int .i64 2)
def Fa1(W0 W:vW)(v:vV):Prop:=∃ (b:Nat) (k:Int),v=.iface 272 (.pointer (some ⟨b,0,none⟩))/\Blk W b (.cells #[.int .i64 k,malE] 274)/\W0.heap.size<=b
def MalP(w:vW)(e:Ending)(w':vW):Prop:=∃ v,e=.returned v/\Ext w w'/\Fa1 w w' v
theorem jbO(w:vW)(k:Int):vQ 197 #[.int .i64 k] w (MalP w):=by
 go_enter Tryz.func197,Tryz.ntmps197;go_wp2_with fail
 go_ret
 exact⟨_,rfl,(ExtR w).alloc _,_,k,rfl,Blk.new w _,bM _⟩
def jyo(w:vW)(e:Ending)(w':vW):Prop:=∃ v,e=.returned (.tuple #[.int .i64 0,v])/\Ext w w'/\Fa1 w w' v
def jvf(s:vB)(to:Nat)(w:vW)(n i:vV)(wr:vW):Prop:=∃ k:Nat,1<=k/\k<=to/\i=.int .i64 k/\n=.int .i64 (beN ((s.data.toList.take k).drop 1))/\beN ((s.data.toList.take k).drop 1)<=1048576/\wr=w
theorem jlI(w:vW)(s:vB)(to:Nat)(hs:s.size<=1000000000)(h2:2<=to)(h9:to<=1000)(h:lenB s to=none):vQ 198 #[.string s,.int .i64 to] w (jyo w):=by
 by_cases hto:s.size < to
 ·have c0:(s.size:Int) < (to:Int):=vO
  clear h;go_enter Tryz.func198,Tryz.ntmps198;go_wp2_with fail
  refine (jbO w s.size).mono ?_;rintro e w1 ⟨v,rfl,q,E⟩
  obtain⟨b,k,rfl,z⟩:=E
  have A:=Hd (bB q z);clear q z;go_wp2_with fail
  go_ret2
  exact⟨_,rfl,A.o.1,b,k,rfl,A.o.2⟩
 have c0:¬(s.size:Int) < (to:Int):=vO
 have c1:(1:Int) < (s.size:Int):=vO
 by_cases hz:(s[1]'(by omega)).toNat=0
 ·have a1:(((s[1]'(by omega)).toNat:Int) == 0)=true:=by simp[hz]
  clear h;go_enter Tryz.func198,Tryz.ntmps198;go_wp2_with fail
  refine (jbO w 1).mono ?_;rintro e w1 ⟨v,rfl,q,E⟩
  obtain⟨b,k,rfl,z⟩:=E
  have A:=Hd (bB q z);clear q z;go_wp2_with fail
  go_ret2
  exact⟨_,rfl,A.o.1,b,k,rfl,A.o.2⟩
 have a1:(((s[1]'(by omega)).toNat:Int) == 0)=false:=by simpa using hz
 have HH:=Hd (show ¬(55 < beN ((s.data.toList.take to).drop 1)/\beN ((s.data.toList.take to).drop 1)<=1048576)from fun hc=>by
  unfold lenB at h;rw[if_neg ?_,if_pos hc]at h
  ·cases h
  ·rintro (O | O)
   ·exact hto O
   ·rw[bG,bA (by simp;omega)]at O
    have O:(s[1]'(by omega))=0:=O;exact hz (by rw[O];rfl))
 clear h hz;go_enter Tryz.func198,Tryz.ntmps198;go_wp2_with fail
 go_loopw [6,7] (fun m i wr=>jvf s to w m i wr) (fun _ i _=>to - (intOf i).toNat)
 case atStart=>exact⟨1,bM _,by omega,rfl,by simp[beN],by simp[beN],rfl⟩
 case round =>
  obtain⟨k,a2,a5,rfl,rfl,H,rfl⟩:=hrel
  by_cases hlt:k < to
  ·have a3:k < s.size:=vO
   have c2:(k:Int) < (s.size:Int):=vO
   have c3:(k:Int) < (to:Int):=vO
   have Q:=jfL s a2 a3
   obtain⟨m,J⟩:=vE (beN ((s.data.toList.take k).drop 1))
   rw[<-J]at H;have X:=jr0 m s[k] H;have Z:bits BinOp.or .i64 ((m:Int) * 256) (wrap64 (s[k].toNat:Int))=((m * 256+s[k].toNat:Nat):Int):=by
    have hb:=s[k].toNat_lt;rw[<-X];congr 1;unfold wrap64;omega
   clear X;have e5:beN ((s.data.toList.take (k+1)).drop 1)=m * 256+s[k].toNat:=by rw[Q,jjP, <-J]
   have H5:=Hd e5;rw[<-J];clear J Q e5
   obtain⟨m',K⟩:∃ m',m'=m * 256+s[k].toNat:=⟨_,rfl⟩
   rw[<-K]at Z;have a0:=Hd K;clear K
   by_cases hbig:1048576 < m'
   ·have c4:(1048576:Int) < (m':Int):=vO
    go_wp2_with fail
    refine (jbO wr k).mono ?_;rintro e w1 ⟨v,rfl,q,E⟩
    obtain⟨b,kk,rfl,z⟩:=E
    have A:=Hd (bB q z);clear q z;go_wp2_with fail
    go_ret2
    exact⟨_,rfl,A.o.1,b,kk,rfl,A.o.2⟩
   ·have c4:¬(1048576:Int) < (m':Int):=vO
    go_wp2_with fail
    go_roundw
    case rel=>exact⟨k+1,by omega,by omega,by go_num,by rw[H5.o,a0.o],by rw[H5.o, <-a0.o];omega,rfl⟩
    case measure=>exact vJ
  ·have a4:k=to:=vO
   subst a4;have c3:¬(k:Int) < (k:Int):=vO
   obtain⟨m,J⟩:=vE (beN ((s.data.toList.take k).drop 1))
   have hh:=HH.o;rw[<-J]at H hh ⊢;have c4:¬(55:Int) < (m:Int):=vO
   clear J hh;go_wp2_with fail
   refine (jbO wr 1).mono ?_;rintro e w1 ⟨v,rfl,q,E⟩
   obtain⟨b,kk,rfl,z⟩:=E
   have A:=Hd (bB q z);clear q z;go_wp2_with fail
   go_ret2
   exact⟨_,rfl,A.o.1,b,kk,rfl,A.o.2⟩
end Go.Proofs.YtmobgkphhbmhbaaGreatDoor
