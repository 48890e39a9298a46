/- Lemmas; each is under no condition but those that it states. -/
import Derived.Test.YtegloohdmjadoaaGreatDoorPu28
namespace Go.Proofs.YtegloohdmjadoaaGreatDoor
set_option linter.unusedSimpArgs false
set_option linter.unusedVariables false
set_option maxRecDepth 100000
set_option maxHeartbeats 16000000
open Go Go.RowKit
def jcn(P:PA)(d:Chg):PA:=if d.gone then jbS P (jbf d.key)else putP P (jbf d.key) d.value
def jlU(q:vN)(o:Option vB)(c:Chg):Option vB:=if q=(jbf c.key).data.toList then c.o else o
theorem jtp{P:PA}(hP:P=.no\/CanP P){c:Chg}(hc:c.bad=false):(jcn P c=.no\/CanP (jcn P c))/\∀ q,getL (jcn P c) q=jlU q (getL P q) c:=by
 have m:=jcS c.key;unfold jcn jlU Chg.o;cases hg:c.gone with
 | true =>
  rw[if_pos rfl,if_pos rfl];rcases hP with rfl | hP
  ·refine⟨.inl rfl,fun q=>?_⟩
   show none=if q=_ then none else none
   split <;> rfl
  ·exact jna P hP _ m
 | false =>
  rw[if_neg ff,if_neg ff];have A:c.value.size≠0:=by
   unfold Chg.bad at hc;rw[hg]at hc;simp only[Bool.false_and,iQ,Bool.not_false,Bool.true_and,gM,Bool.not_eq_false']at hc;have E:=hc.2;unfold jbR at E
   have:=of_decide_eq_true E;omega
  have e:CanP P\/P=.no\/P=.nil:=by
   rcases hP with h | h
   ·exact .inr (.inl h)
   ·exact .inl h
  exact⟨.inr (jm4 P e _ _ m A),jnk P e _ _ A⟩
theorem jrM:∀ (cs:List Chg) (P:PA),(P=.no\/CanP P)->cs.any Chg.bad=false->(cs.foldl jcn P=.no\/CanP (cs.foldl jcn P))/\∀ q,getL (cs.foldl jcn P) q=cs.foldl (jlU q) (getL P q)
 | [],P,hP,_=>⟨hP,fun _=>rfl⟩
 | c :: cs,P,hP,hb=>by
  rw[List.any_cons,gM]at hb
  obtain⟨e,m⟩:=jtp hP hb.1
  obtain⟨o,A⟩:=jrM cs _ e hb.2
  refine⟨o,fun q=>?_⟩
  rw[cN,A,m,cN]
theorem jsS{a b:vB}(h:jbf a=jbf b):a=b:=by rw[<-jhi a,h,jhi]
theorem jp0(k:vB):jlU (jbf k).data.toList=jfb k.data.toList:=by
 funext o c
 unfold jlU jfb Chg.o
 by_cases e:k.data.toList=c.key.data.toList
 ·rw[if_pos e,if_pos (by rw[jbE e])]
 ·rw[if_neg e,if_neg (fun h=>e (by rw[jsS (jbE h)]))]
theorem jjH{q:vN}(h:∀ k,q≠(jbf k).data.toList)(o:Option vB):∀ cs:List Chg,cs.foldl (jlU q) o=o
 | []=>rfl
 | c :: cs=>by
  have e:jlU q o c=o:=by unfold jlU;rw[if_neg (h c.key)]
  rw[cN,e,jjH h o cs]
theorem jk4(k:vB):∀ l:vL,valL l k=look l k.data.toList
 | []=>rfl
 | q :: r=>by
  rw[jaN];show (if q.1=k then some q.2 else valL r k)=_
  by_cases e:q.1=k
  ·rw[if_pos e,if_pos (by rw[<-e])]
  ·rw[if_neg e,if_neg (fun h=>e (jbE h.symm)),jk4 k r]
theorem joU{l:vL}(h:jax 12 l):ja4 13 l=.no\/CanP (ja4 13 l):=by
 by_cases h0:l.length=0
 ·exact .inl (jbU _ h0)
 ·exact .inr (joT 12 l h (fun e=>h0 (by rw[e];rfl))).1
theorem juA{l m:vL}(hl:jaD l=0)(hm:jaD m=0){cs:List Chg}(h:jle l m cs):cs.foldl jcn (ja4 13 (jaM l))=ja4 13 (jaM m):=by
 have o:=jbx (jaG hl);have E:=jbx (jaG hm)
 obtain⟨H,J⟩:=jrM cs _ (joU o) h.fine
 refine jsQ E H fun p K=>?_;rw[J,jkN 12 _ o p K]
 by_cases hk:∃ k,p=jbf k
 ·obtain⟨k,rfl⟩:=hk
  rw[jp0,jpl,jpl,jk4,jk4];exact h.looks k.data.toList
 ·have O:∀ k,p.data.toList≠(jbf k).data.toList:=fun k e=>hk ⟨k,jbE e⟩
  have A:∀ r:vL,valL (jaM r) p=none:=fun r=>jgG fun q Q e=>by
   obtain⟨x,_,rfl⟩:=bI.1 Q
   exact hk ⟨x.1,e.symm⟩
  rw[jjH O,A,A]
def Dp:PA->Nat->Prop
 | .nil,_=>True
 | .no,_=>True
 | .leaf q _,n=>q.size<=n
 | .ext q m,n=>q.size<=n/\Dp m (n - q.size)
 | .br _ ks,n=>∀ i,(ks i).isNil=false->1<=n/\Dp (ks i) (n - 1)
theorem jcd:∀ (P:PA) (n m:Nat),Dp P n->n<=m->Dp P m
 | .nil,_,_,_,_=>trivial
 | .no,_,_,_,_=>trivial
 | .leaf q _,n,m,h,k=>bG (show q.size<=n from h) k
 | .ext q x,n,m,h,k=>⟨bG h.1 k,jcd x _ _ h.2 vO⟩
 | .br _ ks,n,m,h,k=>fun i e=>⟨bG (h i e).1 k,jcd (ks i) _ _ (h i e).2 vO⟩
theorem jfV{a:vB}{P:PA}{n:Nat}(h:Dp P (n - a.size))(ha:a.size<=n):Dp (jcf a P) n:=by
 unfold jcf
 by_cases h0:a.size=0
 ·rw[if_pos h0];exact jcd P _ _ h vO
 rw[if_neg h0];cases P with
 | nil=>trivial
 | no=>trivial
 | leaf q v =>
  have h:q.size<=n - a.size:=h;show (a++q).size<=n;rw[jc8];omega
 | ext q m =>
  have e:=h.1
  refine⟨by rw[jc8];omega,?_⟩
  rw[jc8];exact jcd m _ _ h.2 vO
 | br v ks=>exact⟨ha,h⟩
theorem jio{v:vB}{ks:Nat->PA}{n:Nat}(h:Dp (.br v ks) n){i:Nat}{P:PA}(h1:1<=n)(hP:Dp P (n - 1))(u:vB):Dp (.br u (setK ks i P)) n:=by
 intro j m
 by_cases e:j=i
 ·rw[e,jcl];exact⟨h1,hP⟩
 ·rw[jeP _ _ e]at m ⊢;exact h j m
theorem jim{v:vB}{ks:Nat->PA}{n:Nat}(h:Dp (.br v ks) n){p:vB}(hp:p.size<=n)(u:vB):Dp (addK (.br v ks) p u) n:=by
 rw[jcW]
 by_cases h0:p.size=0
 ·rw[if_pos h0];exact h
 ·rw[if_neg h0]
  refine jio h vO ?_ v;show (jbs p).size<=n - 1;unfold jbs;rw[jaX];omega
theorem jhL(v:vB)(n:Nat):Dp (.br v fun _=>.nil) n:=fun i e=>by cases e
theorem je5(a b:vB):jal a b<=a.size/\jal a b<=b.size:=by
 have:=jbg a.data.toList b.data.toList
 unfold jal;rw[<-jaI, <-jaI];exact this.2
theorem jof:∀ (P:PA) (n:Nat) (p u:vB),Dp P n->p.size<=n->Dp (putP P p u) n
 | .nil,_,p,u,_,hp=>hp
 | .no,_,p,u,_,hp=>hp
 | .leaf q v,n,p,u,h,hp=>by
  have h:q.size<=n:=h
  obtain⟨A,E⟩:=je5 q p
  unfold putP
  by_cases e:p=q
  ·rw[if_pos e];exact hp
  rw[if_neg e];have o:(p.extract 0 (jal q p)).size=jal q p:=by rw[cH];omega
  refine jfV ?_ vO;rw[o];have m:=jim (jhL ⟨#[]⟩ (n - jal q p)) (p:=q.extract (jal q p) q.size) (by rw[jaX];omega) v;rw[jcW]at m ⊢
  by_cases h0:(q.extract (jal q p) q.size).size=0
  ·rw[if_pos h0]at m ⊢
   exact jim m (by rw[jaX];omega) u
  ·rw[if_neg h0]at m ⊢
   exact jim m (by rw[jaX];omega) u
 | .ext q x,n,p,u,h,hp=>by
  obtain⟨A,E⟩:=je5 q p
  unfold putP
  by_cases e:jal q p=q.size
  ·rw[if_pos e]
   refine jfV (jof x _ _ u h.2 ?_) h.1;rw[jaX];omega
  ·rw[if_neg e]
   have o:(p.extract 0 (jal q p)).size=jal q p:=by rw[cH];omega
   refine jfV ?_ vO;rw[o];have H:=h.1;refine jim (jio (jhL ⟨#[]⟩ _) vO (jfV ?_ ?_) _) (by rw[jaX];omega) u
   ·rw[jaX]
    exact jcd x _ _ h.2 vO
   ·rw[jaX];omega
 | .br v ks,n,p,u,h,hp=>by
  unfold putP
  by_cases h0:p.size=0
  ·rw[if_pos h0];exact h
  ·rw[if_neg h0]
   refine jio h vO (jof (ks (jau p)) (n - 1) _ u ?_ ?_) v
   ·cases hn:(ks (jau p)).isNil with
    | true=>rw[jbv hn];trivial
    | false=>exact (h _ hn).2
   ·unfold jbs;rw[jaX];omega
theorem joe{v:vB}{ks:Nat->PA}{n:Nat}(h:Dp (.br v ks) n):Dp (jdq v ks) n:=by
 have m:∀ i∈idxK ks,(ks i).isNil=false:=fun i o=>by
  have:=(cU.1 o).2
  simpa using this
 unfold jdq;cases e:idxK ks with
 | nil =>
  show Dp (if v.size=0 then PA.no else .leaf ⟨#[]⟩ v) n
  by_cases h0:v.size=0
  ·rw[if_pos h0];trivial
  ·rw[if_neg h0];exact cD n
 | cons i r =>
  cases r with
  | nil =>
   show Dp (if v.size=0 then jcf ⟨#[UInt8.ofNat i]⟩ (ks i)else .br v ks) n
   by_cases h0:v.size=0
   ·rw[if_pos h0]
    obtain⟨A,E⟩:=h i (m i (by rw[e];exact bK))
    exact jfV E A
   ·rw[if_neg h0];exact h
  | cons j r=>exact h
theorem jin:∀ (P:PA) (n:Nat) (p:vB),Dp P n->Dp (jbS P p) n
 | .nil,_,_,_=>trivial
 | .no,_,_,_=>trivial
 | .leaf q v,n,p,h=>by
  unfold jbS
  by_cases e:p=q
  ·rw[if_pos e];trivial
  ·rw[if_neg e];exact h
 | .ext q x,n,p,h=>by
  unfold jbS;cases preB q p with
  | false=>rw[if_neg ff];exact h
  | true=>rw[if_pos rfl];exact jfV (jin x _ _ h.2) h.1
 | .br v ks,n,p,h=>by
  unfold jbS
  by_cases h0:p.size=0
  ·rw[if_pos h0];exact joe h
  ·rw[if_neg h0]
   cases hn:(ks (jau p)).isNil with
   | true=>rw[if_pos rfl];exact h
   | false =>
    rw[if_neg ff]
    obtain⟨m,o⟩:=h _ hn
    refine joe (jio h m ?_ v)
    have:=jin (ks (jau p)) (n - 1) (jbs p) o
    unfold unNo;cases (jbS (ks (jau p)) (jbs p)).isNo with
    | true=>rw[if_pos rfl];trivial
    | false=>rw[if_neg ff];exact this
theorem jsN:∀ (f:Nat) (l:vL) (k:Nat),jax f l->jax k l->Dp (ja4 (f+1) l) k:=by
 intro f;have A:∀ (f:Nat) (l:vL) (k:Nat),jax k l->l.length=1->Dp (ja4 (f+1) l) k:=by
  intro f l k h H;rw[jbY _ H];exact (h.size _ (jdt (l:=l) vO)).1
 induction f with
 | zero =>
  intro l k h J;have hl:=jbM h
  by_cases h0:l.length=0
  ·rw[jbU _ h0];trivial
  ·exact A 0 l k J vO
 | succ f ih =>
  intro l k h o
  by_cases h0:l.length=0
  ·rw[jbU _ h0];trivial
  by_cases H:l.length=1
  ·exact A _ l k o H
  have E:2<=l.length:=vO
  by_cases J:0 < comK l
  ·have Q:=jdt (l:=l) vO
   have X:=jdO h E;have m:=jbk h E;have Z:=(m _ Q).2;have a0:=(o.size _ Q).1;rw[jdv _ E J]
   refine⟨by rw[X];omega,?_⟩
   rw[X];exact ih _ _ (jfZ h E J).1 (jb8 (comK l) o (fun p K q hq=>(m p K).1.trans (m q hq).1.symm) (fun p K=>(m p K).2))
  ·rw[jeL _ E J]
   intro i O;have O:(if (cutL i l).length=0 then PA.nil else ja4 (f+1) (jak 1 (cutL i l))).isNil=false:=O;show 1<=k/\Dp (if (cutL i l).length=0 then PA.nil else ja4 (f+1) (jak 1 (cutL i l))) (k - 1)
   by_cases hc:(cutL i l).length=0
   ·rw[if_pos hc]at O;cases O
   ·rw[if_neg hc]
    refine⟨?_,ih _ _ (jgo h hc).1 (jcU i o)⟩
    cases e:cutL i l with
    | nil=>rw[e]at hc;exact (hc rfl).elim
    | cons p r =>
     obtain⟨K,a,t,H,E⟩:=jbB (show p∈cutL i l by rw[e];exact bK)
     have:=(o.size p K).1
     have h3:p.1.size=(a :: t).length:=by rw[<-jaI];exact congrArg List.length H
     rw[bP]at h3;omega
section
attribute [local go_sem] Oper.semAt_some
def noV:vV:=.iface 206 (.agg #[])
def jjj(b:Nat):vV:=.iface 195 (.pointer (some ⟨b,0,none⟩))
def extV(b:Nat):vV:=.iface 198 (.pointer (some ⟨b,0,none⟩))
def brV(b:Nat):vV:=.iface 201 (.pointer (some ⟨b,0,none⟩))
def brC(u:vB)(vk:Nat->vV):List vV:=.string u ::(List.range 16).map vk
def PaAt:PA->vV->(Nat->Prop)->vW->Prop
 | .nil,v,_,_=>v=.nilIface
 | .no,v,_,_=>v=noV
 | .leaf q u,v,D,W=>∃ b,v=jjj b/\D b/\Blk W b (.cells #[.string q,.string u] 197)
 | .ext q n,v,D,W=>∃ b T x Dn,v=extV b/\D b/\Blk W b (.cells #[.string q,.iface T x] 200)/\PaAt n (.iface T x) Dn W/\¬ Dn b/\∀ x,Dn x->D x
 | .br u ks,v,D,W=>∃ (b:Nat) (vk:Nat->vV) (Dk:Nat->Nat->Prop),v=brV b/\D b/\Blk W b (.cells (brC u vk).toArray 204) /\
   (∀ i,i < 16->PaAt (ks i) (vk i) (Dk i) W/\¬ Dk i b/\∀ x,Dk i x->D x)/\∀ i j,i < 16->j < 16->i≠j->∀ x,Dk i x->¬ Dk j x
theorem PaAt.keeps{F:BSet}{W W':vW}(k:jae F W W'):∀ (P:PA) (v:vV) (D:Nat->Prop),PaAt P v D W->(∀ x,D x->¬ F x)->PaAt P v D W'
 | .nil,_,_,h,_=>h
 | .no,_,_,h,_=>h
 | .leaf _ _,_,_,⟨b,h1,h2,h3⟩,hF=>⟨b,h1,h2,h3.keeps k (hF b h2)⟩
 | .ext _ n,_,_,⟨b,T,x,Dn,h1,h2,h3,h4,h5,h6⟩,hF=>⟨b,T,x,Dn,h1,h2,h3.keeps k (hF b h2),PaAt.keeps k n (.iface T x) Dn h4 (fun x e=>hF x (h6 x e)),h5,h6⟩
 | .br _ ks,_,_,⟨b,vk,Dk,h1,h2,h3,h4,h5⟩,hF=>⟨b,vk,Dk,h1,h2,h3.keeps k (hF b h2),fun i m=>⟨PaAt.keeps k (ks i) (vk i) (Dk i) (h4 i m).1 (fun x e=>hF x ((h4 i m).2.2 x e)),(h4 i m).2⟩,h5⟩
theorem PaAt.mono{D D':Nat->Prop}{W:vW}(hD:∀ x,D x->D' x):∀ {P:PA} {v:vV},PaAt P v D W->PaAt P v D' W
 | .nil,_,h=>h
 | .no,_,h=>h
 | .leaf _ _,_,⟨b,h1,h2,h3⟩=>⟨b,h1,hD b h2,h3⟩
 | .ext _ n,_,⟨b,T,x,Dn,h1,h2,h3,h4,h5,h6⟩=>⟨b,T,x,Dn,h1,hD b h2,h3,h4,h5,fun x e=>hD x (h6 x e)⟩
 | .br _ ks,_,⟨b,vk,Dk,h1,h2,h3,h4,h5⟩=>⟨b,vk,Dk,h1,hD b h2,h3,fun i m=>⟨(h4 i m).1,(h4 i m).2.1,fun x e=>hD x ((h4 i m).2.2 x e)⟩,h5⟩
theorem PaAt.form{P:PA}{v:vV}{D:Nat->Prop}{W:vW}(h:PaAt P v D W)(hn:P.isNil=false):∃ T x,v=.iface T x:=by
 cases P with
 | nil=>cases hn
 | no=>exact⟨_,_,h⟩
 | leaf q u=>obtain⟨b,h,_⟩:=h;exact⟨_,_,h⟩
 | ext q n=>obtain⟨b,T,x,e,h,_⟩:=h;exact⟨_,_,h⟩
 | br u ks=>obtain⟨b,m,o,h,_⟩:=h;exact⟨_,_,h⟩
structure PaO(P:PA)(v:Value)(D:Nat->Prop)(W:World):Prop where
 at':PaAt P v D W
 lt:∀ x,D x->x < W.heap.size
theorem PaO.keeps{F:BSet}{W W':vW}{P:PA}{v:vV}{D:Nat->Prop}(h:PaO P v D W)(k:jae F W W')(hF:∀ x,D x->¬ F x):PaO P v D W':=
 ⟨h.at'.keeps k P v D hF,fun x e=>bJ (h.lt x e) k.size⟩
theorem PaO.ext{W W':vW}{P:PA}{v:vV}{D:Nat->Prop}(h:PaO P v D W)(k:Ext W W'):PaO P v D W':=h.keeps k fun _ _ e=>e
def Grow(D:Nat->Prop)(W W':vW):Nat->Prop:=fun x=>D x\/(W.heap.size<=x/\x < W'.heap.size)
theorem jeH{D:Nat->Prop}{W W':vW}{F:BSet}(h:∀ x,D x->x < W.heap.size)(k:jae F W W'):∀ x,Grow D W W' x->x < W'.heap.size
 | x,.inl hx=>bJ (h x hx) k.size
 | x,.inr hx=>hx.2
def PaTo(D:Nat->Prop)(W:vW)(P:PA)(e:Ending)(w':vW):Prop:=∃ v,e=.returned v/\PaAt P v (Grow D W w') w'/\jae D W w'
theorem PaTo.own{D:Nat->Prop}{W:vW}{P:PA}{v:vV}{w':vW}(h:PaAt P v (Grow D W w') w')(k:jae D W w')(hl:∀ x,D x->x < W.heap.size):PaO P v (Grow D W w') w':=⟨h,jeH hl k⟩
def PaEx(D:Nat->Prop)(W:vW)(P:PA)(e:Ending)(w':vW):Prop:=∃ v,e=.returned v/\PaAt P v (Grow D W w') w'/\Ext W w'
theorem jxg(b:Nat)(w:vW):(Instr.typeAssert (jjj b) 88 195 true).run Tryz.prog w=.ok (.tuple #[.pointer (some ⟨b,0,none⟩),.bool true]) w:=vY
theorem jno(v:vV)(h:(∃ b,v=extV b)\/(∃ b,v=brV b)\/v=noV)(w:vW):(Instr.typeAssert v 88 195 true).run Tryz.prog w=.ok (.tuple #[.pointer none,.bool false]) w:=by
 rcases h with⟨b,rfl⟩ |⟨b,rfl⟩ | rfl <;> kernel_rfl
theorem jy8(b:Nat)(w:vW):(Instr.typeAssert (extV b) 88 198 true).run Tryz.prog w=.ok (.tuple #[.pointer (some ⟨b,0,none⟩),.bool true]) w:=vY
theorem jv2(v:vV)(h:(∃ b,v=brV b)\/v=noV)(w:vW):(Instr.typeAssert v 88 198 true).run Tryz.prog w=.ok (.tuple #[.pointer none,.bool false]) w:=by
 rcases h with⟨b,rfl⟩ | rfl <;> kernel_rfl
theorem jAD(b:Nat)(w:vW):(Instr.typeAssert (brV b) 88 201 true).run Tryz.prog w=.ok (.tuple #[.pointer (some ⟨b,0,none⟩),.bool true]) w:=vY
theorem jAE(w:vW):(Instr.typeAssert noV 88 201 true).run Tryz.prog w=.ok (.tuple #[.pointer none,.bool false]) w:=vY
end
section
section mixz
variable {P:Program} {l:List Oper} {E D:vW->vW->Prop}
def anyZ(P:Program)(ops:Array Oper)(z:Nat)(hd:List Nat)(E D:vW->vW->Prop)(Q:Act->vW->Prop):Nat->Array Bool->Act->vW->Prop
 | 0,listed,a,w=>listed.getD z true=true/\Region.ready .any ops listed=[]/\Q a w
 | fuel+1,listed,a,w=>∀ w1,(listed.getD z true=false->E w w1)->(listed.getD z true=true->w1=w) ->
  (Region.ready .any ops listed=[]->Q a w1) /\
  ∀ i∈Region.ready .any ops listed,wpOp P ops NoQ i (fun a' w'=>(listed.getD z true=false->i≠z->D w1 w'/\(i ∉ hd->E w1 w'))/\(listed.getD z true=true->w'=w1)/\anyZ P ops z hd E D Q fuel (listed.setIfInBounds i true) a' w') a w1
theorem jqY(hT:∀ x y z,E x y->E y z->E x z){ops:Array Oper}{z:Nat}{hd:List Nat}{Q:Act->vW->Prop}:∀ (fuel:Nat) (listed:Array Bool) (a:Act) (w w1:vW),listed.getD z true=false->anyZ P ops z hd E D Q fuel listed a w->E w w1->anyZ P ops z hd E D Q fuel listed a w1
 | 0,_,_,_,_,hz,h,_=>by have:=h.1;rw[hz]at this;cases this
 | _+1,_,_,_,_,hz,h,he=>fun m o A=>h m (fun e=>hT _ _ _ he (o e)) (fun e=>absurd e (by rw[hz];decide))
theorem jjr(hE:∀ w,E w w){ops:Array Oper}{z:Nat}{hd:List Nat}{Q:Act->vW->Prop}{Q':Exit->Act->vW->Prop}(hQ:∀ a w,Q a w->Q' .normal a w) :
  ∀ (fuel:Nat) (listed:Array Bool) (a:Act) (w:vW),anyZ P ops z hd E D Q fuel listed a w->wpAny P .any ops Q' fuel listed a w
 | 0,_,_,w,h=>⟨h.2.1,hQ _ _ h.2.2⟩
 | fuel+1,_,_,w,h=>let ⟨h1,h2⟩:=h w (fun _=>hE w) (fun _=>rfl)
  ⟨fun e=>hQ _ _ (h1 e),fun i m=>jh5 (fun o w' ⟨_,_,A⟩=>jjr hE hQ fuel _ o w' A) (h2 i m)⟩
def jpP(ops:Array Oper)(z i:Nat):Bool:=match ops[z]? with | some o=>o.after.toList.any fun e=>Region.binds .any e && e.on == i | none=>false
theorem jup{ops:Array Oper}{z i:Nat}{listed:Array Bool}(he:jpP ops z i=true)(hi:i∈Region.ready .any ops listed):z ∉ Region.ready .any ops listed:=by
 intro K;unfold jpP at he
 obtain⟨O,Q,A,m⟩:=mem_ready.1 K
 rw[A]at he
 obtain⟨e,E,H⟩:=gO.1 he
 rw[cJ,beq_iff_eq]at H;have o:=m e (by simpa using E) H.1;have J:=(mem_ready.1 hi).1;rw[H.2]at o;rcases fH i listed.size with h' | h'
 ·simp[h']at J o;rw[J]at o;cases o
 ·simp[gH h']at o
theorem jpz(hE:∀ w,E w w)(hT:∀ x y z,E x y->E y z->E x z)(hD:∀ x y z,D x y->D y z->D x z)(hED:∀ x y,E x y->D x y){ops:Array Oper}{z:Nat}{hd:List Nat}{Q:Act->vW->Prop}{i:Nat}{oi:Oper}{v:vV}(hiz:i≠z)(he0:jpP ops z i=true)(hi:ops[i]?=some oi)(hsel:∀ (j:Nat) (o:Oper) cs b,ops[j]?=some o->o.op≠.select cs b) :
  ∀ (A:Nat) (m:Array Bool) (a:Act) (w:vW),m.getD z true=false ->
   (∀ j Z,ops[j]?=some Z->j≠i->m.getD j true=false->(∀ e∈Z.after,Region.binds .any e=true->e.on≠i)->oi.apart ops Z=true) ->
   i∈Region.ready .any ops m->jb6 P ops E D w oi v a ->
   anyZ P ops z hd E D Q A (m.setIfInBounds i true) (a.put oi.dst v) w->anyZ P ops z hd E D Q (A+1) m a w:=by
 intro A;induction A with
 | zero =>
  intro m a w hz _ hr hy H
  have:=H.1
  rw[getD_set_ne true hiz,hz]at this;cases this
 | succ A ih =>
  intro m a w hz J hr hy H w1 a8 _;have he:=a8 hz;have a0:(m.setIfInBounds i true).getD z true=false:=by rw[getD_set_ne true hiz,hz]
  refine⟨fun h=>(by rw[h]at hr;cases hr),fun j hj=>?_⟩
  by_cases hji:j=i
  ·subst hji
   exact hy.wpOp hi (hED _ _ he) hE (fun w' K=>⟨fun _ _=>⟨hED _ _ K,fun _=>K⟩,fun e=>absurd e (by rw[hz];decide),jqY hT _ _ _ _ _ a0 H (hT _ _ _ he K)⟩)
  ·have a6:j≠z:=fun e=>jup he0 hr (e ▸ hj)
   have K:=(H w1 (fun _=>he) (fun e=>by rw[a0]at e;cases e)).2 j (ready_mono hj hji)
   obtain⟨X,Z,a3,a4⟩:=mem_ready.1 hj
   have a5:∀ e∈Z.after,Region.binds .any e=true->e.on≠i:=fun e he hb a9=>by
    have K:=a4 e he hb;have h0:=(mem_ready.1 hr).1;rw[a9]at K;rcases fH i m.size with h' | h'
    ·simp[h']at h0 K;rw[h0]at K;cases K
    ·simp[gH h']at K
   have h2:=jfr (v:=v) (Y:=fun a'=>execOp a'.eval oi=execOp a.eval oi/\Region.wanted oi (yielded ops a'.tmps)=Region.wanted oi (yielded ops a.tmps)) a3 (J j Z a3 hji X a5) (fun cs b=>hsel i oi cs b hi) (fun cs b=>hsel j Z cs b a3)
    (fun a1 a2 h e1 e2=>⟨e1.trans h.1,e2.trans h.2⟩) ⟨rfl,rfl⟩ K
   have O:∀ k ok,ops[k]?=some ok->k≠i->(m.setIfInBounds j true).getD k true=false ->
     (∀ e∈ok.after,Region.binds .any e=true->e.on≠i)->oi.apart ops ok=true:=fun k ok hk b0 a7 b1=>by
    refine J k ok hk b0 ?_ b1
    by_cases hjk:j=k
    ·subst hjk;exact X
    ·rw[getD_set_ne true hjk]at a7;exact a7
   refine wpOp_mono (fun a' w' h3=>?_) h2
   obtain⟨⟨e1,e2⟩,h4,_,h5⟩:=h3
   have h4:=h4 a0 a6
   refine⟨fun _ _=>h4,fun e=>absurd e (by rw[hz];decide),?_⟩
   have b2:jb6 P ops E D w' oi v a':=(hy.of_same e1 e2).st hD (hD _ _ _ (hED _ _ he) h4.1);refine ih (m.setIfInBounds j true) a' w' (by rw[getD_set_ne true a6,hz]) O (ready_mono hr (Ne.symm hji)) b2 ?_;rw[gQ _ _ hji];exact h5
def jgN(P:Program)(ops:Array Oper)(o:Oper)(v:vV)(a:Act):Prop:=
 (Region.wanted o (yielded ops a.tmps)=true/\∀ w1,jnB P (fun x y=>y=x) w1 v ((execOp a.eval o).run P w1))\/(Region.wanted o (yielded ops a.tmps)=false/\v=undef)
theorem jgN.wpOp{ops:Array Oper}{i:Nat}{o:Oper}{v:vV}{a:Act}(hi:ops[i]?=some o)(hy:jgN P ops o v a){K:Act->vW->Prop}{w1:vW}
  (h:K (a.put o.dst v) w1):wpOp P ops NoQ i K a w1:=by
 have m:jbN P ops (fun x y=>y=x) w1 o v a:=by
  rcases hy with⟨h1,h2⟩ | h1
  ·exact .inl ⟨h1,fun w1 _=>h2 w1⟩
  ·exact .inr h1
 exact m.wpOp hi (Eq.refl w1) (fun _=>rfl) (fun w' e=>by have e:w'=w1:=e;rw[e];exact h)
theorem jtV(hE:∀ w,E w w)(hT:∀ x y z,E x y->E y z->E x z)(hED:∀ x y,E x y->D x y){ops:Array Oper}{z:Nat}{hd:List Nat}{Q:Act->vW->Prop}{i:Nat}{oi:Oper}{v:vV}(hiz:i≠z)(hi:ops[i]?=some oi)(hsel:∀ (j:Nat) (o:Oper) cs b,ops[j]?=some o->o.op≠.select cs b) :
  ∀ (A:Nat) (m:Array Bool) (a:Act) (w:vW),
   (∀ j oj,ops[j]?=some oj->j≠i->m.getD j true=false->(∀ e∈oj.after,Region.binds .any e=true->e.on≠i)->oi.apart ops oj=true) ->
   i∈Region.ready .any ops m->jgN P ops oi v a ->
   anyZ P ops z hd E D Q A (m.setIfInBounds i true) (a.put oi.dst v) w->anyZ P ops z hd E D Q (A+1) m a w:=by
 intro A;have a0:∀ (A:Nat) (m:Array Bool) (a:Act) (w w1:vW),(m.getD z true=false->E w w1)->(m.getD z true=true->w1=w) ->
   anyZ P ops z hd E D Q A (m.setIfInBounds i true) (a.put oi.dst v) w->anyZ P ops z hd E D Q A (m.setIfInBounds i true) (a.put oi.dst v) w1:=by
  intro A m a w w1 K h2 H;cases hz:m.getD z true with
  | true=>rw[h2 hz];exact H
  | false=>exact jqY hT _ _ _ _ _ (by rw[getD_set_ne true hiz,hz]) H (K hz)
 induction A with
 | zero =>
  intro m a w J hr hy H w1 O X;have hz:m.getD z true=true:=by have:=H.1;rwa [getD_set_ne true hiz]at this
  refine⟨fun h=>(by rw[h]at hr;cases hr),fun j hj=>?_⟩
  by_cases hji:j=i
  ·subst hji
   exact hy.wpOp hi ⟨fun _ _=>⟨hED _ _ (hE w1),fun _=>hE w1⟩,fun _=>rfl,a0 0 m a w w1 O X H⟩
  ·have:=ready_mono hj hji
   rw[H.2.1]at this;cases this
 | succ A ih =>
  intro m a w J hr hy H w1 O X
  refine⟨fun h=>(by rw[h]at hr;cases hr),fun j hj=>?_⟩
  by_cases hji:j=i
  ·subst hji
   exact hy.wpOp hi ⟨fun _ _=>⟨hED _ _ (hE w1),fun _=>hE w1⟩,fun _=>rfl,a0 _ m a w w1 O X H⟩
  ·have a4:(m.setIfInBounds i true).getD z true=m.getD z true:=getD_set_ne true hiz
   have K:=(H w1 (fun e=>O (a4 ▸ e)) (fun e=>X (a4 ▸ e))).2 j (ready_mono hj hji)
   obtain⟨a3,oj,a5,a6⟩:=mem_ready.1 hj
   have a7:∀ e∈oj.after,Region.binds .any e=true->e.on≠i:=fun e he hb b0=>by
    have K:=a6 e he hb;have h0:=(mem_ready.1 hr).1;rw[b0]at K;rcases fH i m.size with h' | h'
    ·simp[h']at h0 K;rw[h0]at K;cases K
    ·simp[gH h']at K
   have h2:=jfr (v:=v) (Y:=fun a'=>execOp a'.eval oi=execOp a.eval oi/\Region.wanted oi (yielded ops a'.tmps)=Region.wanted oi (yielded ops a.tmps)) a5 (J j oj a5 hji a3 a7) (fun cs b=>hsel i oi cs b hi) (fun cs b=>hsel j oj cs b a5)
    (fun a1 a2 h e1 e2=>⟨e1.trans h.1,e2.trans h.2⟩) ⟨rfl,rfl⟩ K
   have Z:∀ k ok,ops[k]?=some ok->k≠i->(m.setIfInBounds j true).getD k true=false ->
     (∀ e∈ok.after,Region.binds .any e=true->e.on≠i)->oi.apart ops ok=true:=fun k ok hk b1 a8 b2=>by
    refine J k ok hk b1 ?_ b2
    by_cases hjk:j=k
    ·subst hjk;exact a3
    ·rw[getD_set_ne true hjk]at a8;exact a8
   refine wpOp_mono (fun a' w' h3=>?_) h2
   obtain⟨⟨e1,e2⟩,h4,a9,h5⟩:=h3
   rw[a4]at h4 a9
   refine⟨h4,a9,?_⟩
   have b3:jgN P ops oi v a':=by unfold jgN at *;rw[e1,e2];exact hy
   refine ih (m.setIfInBounds j true) a' w' Z (ready_mono hr (Ne.symm hji)) b3 ?_;rw[gQ _ _ hji];exact h5
def MixZ(P:Program)(l:List Oper)(z:Nat)(hd:List Nat)(E D:vW->vW->Prop)(Q:Act->vW->Prop):List Nat->List Nat->Act->vW->Prop
 | [],done,a,w=>Region.ready .any l.toArray (jbc l done)=[z]/\(jbc l done).getD z true=false/\(jbc l (z :: done)).getD z true=true/\Region.ready .any l.toArray (jbc l (z :: done))=[]/\∀ w1,E w w1->wpOp P l.toArray NoQ z Q a w1
 | k :: ord,done,a,w=>(jbc l done).getD z true=false/\k≠z /\
  ((k∈Region.ready .any l.toArray (jbc l done)/\Region.free .any l.toArray (jbc l done) k=true/\∃ o v,l[k]?=some o/\((jpP l.toArray z k=true/\jb6 P l.toArray E D w o v a)\/jgN P l.toArray o v a)/\MixZ P l z hd E D Q ord (k :: done) (a.put o.dst v) w) \/
  (Region.ready .any l.toArray (jbc l done)=[k]/\k∈hd/\∀ w1,E w w1->wpOp P l.toArray NoQ k (fun a' w'=>D w1 w'/\MixZ P l z hd E D Q ord (k :: done) a' w') a w1))
theorem jeC(hE:∀ w,E w w)(hT:∀ x y z,E x y->E y z->E x z)(hD:∀ x y z,D x y->D y z->D x z)(hED:∀ x y,E x y->D x y)(hs:Region.noSelect l.toArray=true){z:Nat}{hd:List Nat}{Q:Act->vW->Prop}:∀ (ord:List Nat) (done:List Nat) (a:Act) (w:vW),
  MixZ P l z hd E D Q ord done a w->anyZ P l.toArray z hd E D Q (ord.length+1) (jbc l done) a w
 | [],done,a,w,⟨h1,hz,hz2,K,h3⟩=>fun w1 A _=>by
  refine⟨fun H=>(by rw[h1]at H;cases H),fun i J=>?_⟩
  rw[h1]at J;obtain rfl:i=z:=by simpa using J
  exact wpOp_mono (fun O w' h=>⟨fun _ e=>absurd rfl e,fun e=>absurd e (by rw[hz];decide),hz2,K,h⟩) (h3 w1 (A hz))
 | k :: ord,done,a,w,⟨hz,hkz,h⟩=>by
  rcases h with⟨hr,hf,o,v,ho,hy,h⟩ |⟨hr,hkd,h⟩
  ·have m:l.toArray[k]?=some o:=by simpa using ho
   rcases hy with⟨A,hy⟩ | hy
   ·exact jpz hE hT hD hED hkz A m (gJ hs) (ord.length+1) (jbc l done) a w hz (gZ m hf) hr hy (jeC hE hT hD hED hs ord _ _ _ h)
   ·exact jtV hE hT hED hkz m (gJ hs) (ord.length+1) (jbc l done) a w (gZ m hf) hr hy (jeC hE hT hD hED hs ord _ _ _ h)
  ·intro w1 A _
   refine⟨fun H=>(by rw[hr]at H;cases H),fun i J=>?_⟩
   rw[hr]at J;obtain rfl:i=k:=by simpa using J
   exact wpOp_mono (fun O w' K=>⟨fun _ _=>⟨K.1,fun X=>absurd hkd X⟩,fun e=>absurd e (by rw[hz];decide),jeC hE hT hD hED hs ord _ _ _ K.2⟩) (h w1 (A hz))
theorem jdf(ord:List Nat)(z:Nat)(hd:List Nat)(E D:vW->vW->Prop)(hE:∀ w,E w w)(hT:∀ x y z,E x y->E y z->E x z)(hD:∀ x y z,D x y->D y z->D x z)(hED:∀ x y,E x y->D x y){id:Nat}{Q:Exit->Act->vW->Prop}{a:Act}{w:vW}
  (hm:P.follows .mixedOrders=true) (hs:Region.noSelect l.toArray=true) (hl:ord.length+1=l.toArray.size)
  (h:MixZ P l z hd E D (fun a w=>Q .normal a w) ord [] a w.drew):(Code.region id l.toArray true).wp P Q a w:=by
 refine wp_region_any hm ?_;rw[<-hl]
 have:=jeC hE hT hD hED hs ord _ _ _ h
 unfold jbc at this;rw[hl]at this ⊢;exact jjr hE (fun _ _ h=>h) _ _ _ _ this
variable {Q:Act->vW->Prop} {ord done hd:List Nat} {a:Act} {w:vW} {k z:Nat} {o:Oper}
def jpY(l:List Oper)(z:Nat)(done:List Nat)(k:Nat):Bool:=(Region.ready .any l.toArray (jbc l done)).contains k && Region.free .any l.toArray (jbc l done) k && (jbc l done).getD z true == false && k != z
theorem jg8(h:jpY l z done k=true):(k∈Region.ready .any l.toArray (jbc l done)/\Region.free .any l.toArray (jbc l done) k=true)/\(jbc l done).getD z true=false/\k≠z:=by
 simp only[jpY,cJ,cO,beq_iff_eq,bne_iff_ne]at h
 exact⟨h.1.1,h.1.2,h.2⟩
theorem jsr(o:Oper)(ho:l[k]?=some o)(hk:jpY l z done k=true)(hw:Region.wanted o (yielded l.toArray a.tmps)=true)(hq:jiH o.op=true)
  (h:∀ K:Act->Prop,(∀ a',MixZ P l z hd E D Q ord (k :: done) a' w->K a')->o.quiet P a (fun _=>True) K):MixZ P l z hd E D Q (k :: ord) done a w:=by
 obtain⟨⟨m,A⟩,H,J⟩:=jg8 hk
 obtain⟨v,O,X⟩:=h _ (fun _ h=>h)
 refine⟨H,J,.inl ⟨m,A,o,v,ho,.inr (.inl ⟨hw,fun w1=>?_⟩),X⟩⟩
 have e:=O w1 trivial;unfold Oper.quietAt at e;have Z:=fun f args w'=>jiW (ρ:=a.eval) hq P w1 w' f args;generalize (execOp a.eval o).run P w1=r at *;cases r with
 | ok n w'=>cases n <;> simp only[Oper.quietUpon]at e <;> first | exact e | exact absurd rfl (Z _ _ _)
 | halt x w'=>simp only[Oper.quietUpon]at e
theorem jcH(o:Oper)(v:vV)(ho:l[k]?=some o)(hk:jpY l z done k=true)(hw:Region.wanted o (yielded l.toArray a.tmps)=true)
  (hv:∀ w1,(execOp a.eval o).run P w1=.ok (.value v) w1) (h:MixZ P l z hd E D Q ord (k :: done) (a.put o.dst v) w):MixZ P l z hd E D Q (k :: ord) done a w:=by
 obtain⟨⟨e,m⟩,A,H⟩:=jg8 hk
 exact⟨A,H,.inl ⟨e,m,o,v,ho,.inr (.inl ⟨hw,fun w1=>by rw[hv w1];exact⟨rfl,rfl⟩⟩),h⟩⟩
theorem juX(o:Oper)(v:vV)(ho:l[k]?=some o)(hk:jpY l z done k=true)(he:jpP l.toArray z k=true)(hw:Region.wanted o (yielded l.toArray a.tmps)=true)
  (hv:∀ w1,D w w1->(execOp a.eval o).run P w1=.ok (.value v) w1) (h:MixZ P l z hd E D Q ord (k :: done) (a.put o.dst v) w):MixZ P l z hd E D Q (k :: ord) done a w:=by
 obtain⟨⟨e,m⟩,A,H⟩:=jg8 hk
 exact⟨A,H,.inl ⟨e,m,o,v,ho,.inl ⟨he,.inl ⟨hw,fun w1 J=>by rw[hv w1 J];exact⟨rfl,rfl⟩⟩⟩,h⟩⟩
theorem jgu(p:Addr)(v:vV){t:TypeId}{x:Operand}{d:Option Tmp}{ty:TypeId}{pos:String}{af:Array Edge}{g:Option (Nat × Bool)}(ho:l[k]?=some ⟨d,.load t x,ty,pos,af,g⟩)(hk:jpY l z done k=true)(he:jpP l.toArray z k=true)
  (hw:Region.wanted ⟨d,.load t x,ty,pos,af,g⟩ (yielded l.toArray a.tmps)=true) (hx:a.eval x=.pointer (some p))
  (hv:∀ w1,D w w1->(Instr.loadAt t (.pointer (some p))).run P w1=.ok v w1) (h:MixZ P l z hd E D Q ord (k :: done) (a.put d v) w):MixZ P l z hd E D Q (k :: ord) done a w:=by
 refine juX _ v ho hk he hw (fun w1 e=>?_) h
 have:=hv w1 e
 simp only[execOp,hx,cA,this,Result.andThen,cR]
def jvV(l:List Oper)(z:Nat)(hd done:List Nat)(k:Nat):Bool:=Region.ready .any l.toArray (jbc l done) == [k] && (jbc l done).getD z true == false && k != z && hd.contains k
theorem jgs(o:Oper)(ho:l[k]?=some o)(hk:jvV l z hd done k=true)(hw:Region.wanted o (yielded l.toArray a.tmps)=true)
  (h:∀ w1,E w w1->∀ K:Act->vW->Prop,(∀ a' w',D w1 w'->MixZ P l z hd E D Q ord (k :: done) a' w'->K a' w')->o.wp P a w1 K NoQ):MixZ P l z hd E D Q (k :: ord) done a w:=by
 simp only[jvV,cJ,beq_iff_eq,bne_iff_ne,cO]at hk
 refine⟨hk.1.1.2,hk.1.2,.inr ⟨hk.1.1.1,hk.2,fun w1 m=>?_⟩⟩
 unfold wpOp;have e:l.toArray[k]?=some o:=by simpa using ho
 simp only[e,hw,if_true];exact .inl (h w1 m _ (fun _ _ A H=>⟨A,H⟩))
def jzk(l:List Oper)(z:Nat)(done:List Nat):Bool:=Region.ready .any l.toArray (jbc l done) == [z] && (jbc l done).getD z true == false && (jbc l (z :: done)).getD z true == true && (Region.ready .any l.toArray (jbc l (z :: done))).isEmpty
theorem jgt(o:Oper)(ho:l[z]?=some o)(hk:jzk l z done=true)(hw:Region.wanted o (yielded l.toArray a.tmps)=true)
  (h:∀ w1,E w w1->∀ K:Act->vW->Prop,(∀ a' w',Q a' w'->K a' w')->o.wp P a w1 K NoQ):MixZ P l z hd E D Q [] done a w:=by
 simp only[jzk,cJ,beq_iff_eq,fB]at hk
 refine⟨hk.1.1.1,hk.1.1.2,hk.1.2,hk.2,fun w1 m=>?_⟩
 unfold wpOp;have e:l.toArray[z]?=some o:=by simpa using ho
 simp only[e,hw,if_true];exact .inl (h w1 m _ (fun _ _ h=>h))
end mixz
end
section
attribute [local go_sem] Oper.semAt_some
theorem jc7{p:vB}(h:p.size≠0):p.toList.isEmpty=false:=by
 rw[dC];intro e;rw[fB,bL]at e;exact h (by rw[<-jaI,e];rfl)
theorem PaEx.mk1{D:Nat->Prop}{W W':vW}{P:PA}{v:vV}(h:PaAt P v (Grow D W W') W')(e:Ext W W'):PaEx D W P (.returned v) W':=⟨v,rfl,h,e⟩
theorem jzy(W:vW)(D:Nat->Prop)(P:PA)(v:vV)(h:PaAt P v D W):vQ 228 #[.string ⟨#[]⟩,v] W (PaEx D W P):=by
 have H:=Hd h;clear h;go_enter Tryz.func228,Tryz.ntmps228;have e:(⟨#[]⟩:vB).toList.isEmpty=true:=by rw[bL];rfl
 go_wp2_with fail
 go_ret;exact PaEx.mk1 (H.o.mono (fun x m=>.inl m)) (ExtR W)
theorem jxx(W:vW)(D:Nat->Prop)(a q u:vB)(b:Nat)(hB:Blk W b (.cells #[.string q,.string u] 197))(h0:a.size≠0)(ha:a.size<=1000000)(hq:q.size<=1000000) :
  vQ 228 #[.string a,jjj b] W (PaEx D W (.leaf (a++q) u)):=by
 have a0:=jc7 h0;have Q:=hB.cell (i:=0) (v:=.string q) vF;have X:=hB.cell (i:=1) (v:=.string u) vF;have Q0:=Hd Q;have Q1:=Hd X;have hT:=jxg b;unfold jjj at hT ⊢;clear hB h0 Q X;go_enter Tryz.func228,Tryz.ntmps228;go_wp2_with fail
 refine jah [0,1,2,3,4,5,6,7,8,9,10,11,12,13] (Ext) ExtR ExtT vY vY vY ?_;iterate 2 refine vK ?_
 refine jcr _ ((.pointer (some ⟨b,0,none⟩))) rfl vY rfl (fun w1 _=>by kernel_rfl) ?_;refine vS ?_
 refine vK ?_
 refine qKL ⟨b,0,none⟩ _ rfl (fun w1 J=>jaE (fun w=>by kernel_rfl) (jaa Q0.o ((jai _).trans J))) ?_;refine vS ?_;iterate 2 refine vK ?_
 refine jcr _ ((.pointer (some ⟨b,0,none⟩))) rfl vY rfl (fun w1 _=>by kernel_rfl) ?_;refine vS ?_
 refine vK ?_
 refine qKL ⟨b,1,none⟩ _ rfl (fun w1 J=>jaE (fun w=>by kernel_rfl) (jaa Q1.o ((jai _).trans J))) ?_;refine vS ?_
 refine vK ?_
 refine jen _ rfl vY rfl (fun m hb K Z=>?_);refine jcu (v:=.pointer (some ⟨m.heap.size,0,none⟩)) (w':=m.alloc (.cells #[.string (a++q),.string u] 197)) vY (Z _ _ ((ExtR m).alloc _) ?_);clear Z K;have hN:=Blk.new m (.cells #[.string (a++q),.string u] 197);refine vS ?_;iterate 2 refine vK ?_
 refine qKE (fun w5 O=>?_);have E:Ext W w5:=(((jai W).trans hb).trans ((ExtR m).alloc _)).trans O;have e:=hN.keeps O (fun h=>h);have A:=hb.size;have A:W.heap.size<=m.heap.size:=A;have H:=e.lt;have HX:=Hd (bB E (bB e (bB A H)));clear O hN hb E e A H;go_wp2_with fail
 go_ret
 obtain⟨E,e,A,H⟩:=HX.o
 exact PaEx.mk1 ⟨_,rfl,.inr ⟨A,H⟩,e⟩ E
theorem jzx(W:vW)(D:Nat->Prop)(a q:vB)(n:PA)(T:TypeId)(x:vV)(Dn:Nat->Prop)(b:Nat)(hB:Blk W b (.cells #[.string q,.iface T x] 200))(O:PaAt n (.iface T x) Dn W)(H:∀ x,Dn x->D x/\x < W.heap.size)(h0:a.size≠0)(ha:a.size<=1000000)(hq:q.size<=1000000) :
  vQ 228 #[.string a,extV b] W (PaEx D W (.ext (a++q) n)):=by
 have a0:=jc7 h0;have q0:=hB.cell (i:=0) (v:=.string q) vF;have q1:=hB.cell (i:=1) (v:=.iface T x) vF;have Q0:=Hd q0;have Q1:=Hd q1;have HV:=Hd (bB O H);have hT:=jy8 b;have X:=jno (extV b) (.inl ⟨b,rfl⟩);unfold extV at hT X ⊢;clear hB h0 q0 q1 O H;go_enter Tryz.func228,Tryz.ntmps228;go_wp2_with fail
 refine jah [0,1,2,3,4,5,6,7,8,9,10,11,12,13] (Ext) ExtR ExtT vY vY vY ?_;iterate 2 refine vK ?_
 refine jcr _ ((.pointer (some ⟨b,0,none⟩))) rfl vY rfl (fun w1 _=>by kernel_rfl) ?_;refine vS ?_
 refine vK ?_
 refine qKL ⟨b,0,none⟩ _ rfl (fun w1 Z=>jaE (fun w=>by kernel_rfl) (jaa Q0.o ((jai _).trans Z))) ?_;refine vS ?_;iterate 2 refine vK ?_
 refine jcr _ ((.pointer (some ⟨b,0,none⟩))) rfl vY rfl (fun w1 _=>by kernel_rfl) ?_;refine vS ?_
 refine vK ?_
 refine qKL ⟨b,1,none⟩ _ rfl (fun w1 Z=>jaE (fun w=>by kernel_rfl) (jaa Q1.o ((jai _).trans Z))) ?_;refine vS ?_
 refine vK ?_
 refine jen _ rfl vY rfl (fun A hb K hK=>?_);refine jcu (v:=.pointer (some ⟨A.heap.size,0,none⟩)) (w':=A.alloc (.cells #[.string (a++q),.iface T x] 200)) vY (hK _ _ ((ExtR A).alloc _) ?_);clear hK K;have hN:=Blk.new A (.cells #[.string (a++q),.iface T x] 200);refine vS ?_;iterate 2 refine vK ?_
 refine qKE (fun w5 he=>?_);have J:Ext W w5:=(((jai W).trans hb).trans ((ExtR A).alloc _)).trans he;have m:=hN.keeps he (fun h=>h);have E:=hb.size;have E:W.heap.size<=A.heap.size:=E;have Q:=m.lt;have HX:=Hd (bB J (bB m (bB E Q)));clear he hN hb J m E Q;go_wp2_with fail
 go_ret
 obtain⟨J,m,E,Q⟩:=HX.o
 obtain⟨O,H⟩:=HV.o
 exact PaEx.mk1 ⟨_,T,x,Dn,rfl,.inr ⟨E,Q⟩,m,O.keeps J n (.iface T x) Dn (fun _ _ e=>e),fun e=>by have:=(H _ e).2;omega,fun x hx=>.inl (H x hx).1⟩ J
theorem jAP(W:vW)(D:Nat->Prop)(a:vB)(u:vB)(ks:Nat->PA)(b:Nat)(h:PaO (.br u ks) (brV b) D W)(h0:a.size≠0) :
  vQ 228 #[.string a,brV b] W (PaEx D W (.ext a (.br u ks))):=by
 have K:=jc7 h0;have E:=Hd h;have O:=jAD b;have m:=jno (brV b) (.inr (.inl ⟨b,rfl⟩));have A:=jv2 (brV b) (.inl ⟨b,rfl⟩);unfold brV at O m A ⊢;clear h h0;go_enter Tryz.func228,Tryz.ntmps228;go_wp2_with fail
 go_ret;have H:Ext W (W.alloc (.cells #[.string a,brV b] 200)):=(ExtR W).alloc _;have J:=Blk.new W (.cells #[.string a,brV b] 200);exact PaEx.mk1 ⟨_,_,_,D,rfl,.inr ⟨bM _,J.lt⟩,J,E.o.at'.keeps H _ _ _ (fun _ _ e=>e),fun e=>by have:=E.o.lt _ e;omega,fun x Q=>.inl Q⟩ H
theorem jAQ(W:vW)(D:Nat->Prop)(a:vB)(h0:a.size≠0):vQ 228 #[.string a,noV] W (PaEx D W .no):=by
 have A:=jc7 h0;have e:=jno noV (.inr (.inr rfl));have m:=jv2 noV (.inr rfl);have o:=jAE;unfold noV at e m o ⊢;clear h0;go_enter Tryz.func228,Tryz.ntmps228;go_wp2_with fail
 go_ret;exact PaEx.mk1 rfl (ExtR W)
theorem pj_c(W:vW)(D:Nat->Prop)(a:vB)(P:PA)(v:vV)(h:PaO P v D W)(hn:P.isNil=false)(ha:a.size<=1000000)(hd:Dp P 1000000) :
  vQ 228 #[.string a,v] W (PaEx D W (jcf a P)):=by
 unfold jcf
 by_cases h0:a.size=0
 ·rw[if_pos h0,jbj h0];exact jzy W D P v h.at'
 rw[if_neg h0];cases P with
 | nil=>cases hn
 | no=>obtain rfl:v=noV:=h.at';exact jAQ W D a h0
 | leaf q u =>
  obtain⟨b,rfl,m,e⟩:=h.at'
  exact jxx W D a q u b e h0 ha hd
 | ext q n =>
  obtain⟨b,T,x,H,rfl,m,e,o,J,A⟩:=h.at'
  exact jzx W D a q n T x H b e o (fun x E=>⟨A x E,h.lt x (A x E)⟩) h0 ha hd.1
 | br u ks =>
  obtain⟨b,K,O,rfl,m,e,o,J⟩:=h.at'
  exact jAP W D a u ks b h h0
end
section
attribute [local go_sem] Oper.semAt_some
theorem jdA{a:vB}{P:PA}(h:P.isNil=false):(jcf a P).isNil=false:=by
 unfold jcf;split
 ·exact h
 ·cases P <;> rfl
theorem jiY:∀ (P:PA) (p u:vB),(putP P p u).isNil=false
 | .nil,_,_=>rfl
 | .no,_,_=>rfl
 | .leaf q v,p,u=>by
  unfold putP;split
  ·rfl
  ·refine jdA ?_
   rw[jcW];split
   ·rw[jcW];split <;> rfl
   ·rw[jcW];split <;> rfl
 | .ext q n,p,u=>by
  unfold putP;split
  ·exact jdA (jiY n _ _)
  ·refine jdA ?_
   rw[jcW];split <;> rfl
 | .br v ks,p,u=>by
  unfold putP;split <;> rfl
theorem jcI{P:Program}{a:Act}{w:vW}{d:Option Tmp}{x:Operand}{name:String}{args:Array Operand}{ats:Array TypeId}{ty:TypeId}{pos:String}{af:Array Edge}{g:Option (Nat × Bool)}{T:TypeId}{v r:vV}{f:FuncId}{vs:Array vV}(hx:a.eval x=.iface T v)
  (hm:(Go.method (P.types.size+Made.depth) T v name).run P w=.ok (f,r) w) (eg:∀ args w,(callFunc f args).run P w=.ok (.enter f args) w) (hv:args.map a.eval=vs) :
  (execOp a.eval ⟨d,.call { callee:=.invoke x name,args:=args,argTypes:=ats },ty,pos,af,g⟩).run P w=.ok (.enter f (#[r]++vs)) w:=by
 subst hv;have e:(#[Value.iface T v]++args.map a.eval)[0]?=some (.iface T v):=by simp[Array.getElem?_append]
 have m:(#[Value.iface T v]++args.map a.eval).extract 1 (#[Value.iface T v]++args.map a.eval).size=args.map a.eval:=by simp
 simp only[execOp,resolve,hx,cA,cR,Result.andThen,invoke,e,m,callMethod,run_program,hm,eg]
def jkG:PA->FuncId
 | .leaf _ _=>225
 | .ext _ _=>232
 | .br _ _=>227
 | _=>242
def jfd:PA->FuncId
 | .leaf _ _=>222
 | .ext _ _=>229
 | .br _ _=>235
 | _=>239
def jf0:PA->FuncId
 | .leaf _ _=>223
 | .ext _ _=>230
 | .br _ _=>236
 | _=>240
def jl9:PA->FuncId
 | .leaf _ _=>224
 | .ext _ _=>231
 | .br _ _=>237
 | _=>241
set_option maxRecDepth 100000
theorem jir(P:PA):∀ args w,(callFunc (jkG P) args).run Tryz.prog w=.ok (.enter (jkG P) args) w:=by intro args w;cases P <;> kernel_rfl
theorem jfy(P:PA):∀ args w,(callFunc (jfd P) args).run Tryz.prog w=.ok (.enter (jfd P) args) w:=by intro args w;cases P <;> kernel_rfl
theorem jeg(P:PA):∀ args w,(callFunc (jf0 P) args).run Tryz.prog w=.ok (.enter (jf0 P) args) w:=by intro args w;cases P <;> kernel_rfl
theorem jpR(P:PA):∀ args w,(callFunc (jl9 P) args).run Tryz.prog w=.ok (.enter (jl9 P) args) w:=by intro args w;cases P <;> kernel_rfl
structure jyt(P:PA)(T:TypeId)(x:Value):Prop where
 put:∀ w,(Go.method (Tryz.prog.types.size+Made.depth) T x "guilloche/trie.put").run Tryz.prog w=.ok (jkG P,x) w
 drop:∀ w,(Go.method (Tryz.prog.types.size+Made.depth) T x "guilloche/trie.drop").run Tryz.prog w=.ok (jfd P,x) w
 ent:∀ w,(Go.method (Tryz.prog.types.size+Made.depth) T x "guilloche/trie.entries").run Tryz.prog w=.ok (jf0 P,x) w
 form:∀ w,(Go.method (Tryz.prog.types.size+Made.depth) T x "guilloche/trie.form").run Tryz.prog w=.ok (jl9 P,x) w
theorem PaAt.meth{P:PA}{T:TypeId}{x:vV}{D:Nat->Prop}{W:vW}(h:PaAt P (.iface T x) D W):jyt P T x:=by
 cases P with
 | nil=>cases h
 | no =>
  have h:Value.iface T x=noV:=h;unfold noV at h;injection h with h1 h2;subst h1 h2
  exact⟨fun w=>by kernel_rfl,fun w=>by kernel_rfl,fun w=>by kernel_rfl,fun w=>by kernel_rfl⟩
 | leaf q u =>
  obtain⟨b,h,_⟩:=h
  unfold jjj at h;injection h with h1 h2;subst h1 h2
  exact⟨fun w=>by kernel_rfl,fun w=>by kernel_rfl,fun w=>by kernel_rfl,fun w=>by kernel_rfl⟩
 | ext q n =>
  obtain⟨b,_,_,_,h,_⟩:=h
  unfold extV at h;injection h with h1 h2;subst h1 h2
  exact⟨fun w=>by kernel_rfl,fun w=>by kernel_rfl,fun w=>by kernel_rfl,fun w=>by kernel_rfl⟩
 | br u ks =>
  obtain⟨b,_,_,h,_⟩:=h
  unfold brV at h;injection h with h1 h2;subst h1 h2
  exact⟨fun w=>by kernel_rfl,fun w=>by kernel_rfl,fun w=>by kernel_rfl,fun w=>by kernel_rfl⟩
theorem jxo:jyt .no 206 (.agg #[]):=PaAt.meth (D:=fun _=>True) (W:={ (default:vW)with heap:=#[] }) rfl
def PutC(P:PA):Prop:=∀ (W:vW) (T:TypeId) (x:vV) (D:Nat->Prop) (p u:vB),PaO P (.iface T x) D W->p.size<=900000->jaz p=true->Dp P 900000 ->
 vQ (jkG P) #[x,.string p,.string u] W (PaTo D W (putP P p u))
theorem PaTo.mk1{D:Nat->Prop}{W W':vW}{P:PA}{v:vV}(h:PaAt P v (Grow D W W') W')(e:jae D W W'):PaTo D W P (.returned v) W':=⟨v,rfl,h,e⟩
theorem jnd(T:TypeId)(x:vV)(w:vW):(binOp .eql 88 (.iface T x) .nilIface).run Tryz.prog w=.ok (.bool false) w:=vY
theorem jy6(w:vW):(binOp .eql 88 .nilIface .nilIface).run Tryz.prog w=.ok (.bool true) w:=vY
theorem jgR(u:vB)(vk:Nat->vV):(brC u vk).length=17:=by simp[brC]
theorem jeD(u:vB)(vk:Nat->vV){i:Nat}(h:i < 16):(brC u vk)[1+i]?=some (vk i):=by
 rw[iK];show ((List.range 16).map vk)[i]?=_;rw[bV,dW h];rfl
def setV(vk:Nat->vV)(i:Nat)(v:vV):Nat->vV:=fun j=>if j=i then v else vk j
theorem jrc(u:vB)(vk:Nat->vV){i:Nat}(h:i < 16)(v:vV):(brC u vk).toArray.setIfInBounds (1+i) v=(brC u (setV vk i v)).toArray:=by
 have e:(brC u vk).set (1+i) v=brC u (setV vk i v):=by
  rw[iK];show Value.string u ::((List.range 16).map vk).set i v=Value.string u ::(List.range 16).map (setV vk i v)
  congr 1
  apply List.ext_getElem?;intro j;rw[List.getElem?_set]
  by_cases hj:i=j
  ·subst hj
   rw[if_pos rfl,if_pos (by simpa using h),bV,dW h];simp[setV]
  ·rw[if_neg hj]
   by_cases hj16:j < 16
   ·rw[bV,bV,dW hj16]
    simp[setV,Ne.symm hj]
   ·rw[jB (by simp;omega),jB (by simp;omega)]
 rw[<-e];simp
theorem jwP(u u':vB)(vk:Nat->vV):(brC u vk).toArray.setIfInBounds 0 (.string u')=(brC u' vk).toArray:=by simp[brC]
structure BrAt(u:vB)(ks:Nat->PA)(b:Nat)(vk:Nat->Value)(Dk:Nat->Nat->Prop)(D:Nat->Prop)(W:World):Prop where
 mem:D b
 blk:Blk W b (.cells (brC u vk).toArray 204)
 kid:∀ i,i < 16->PaAt (ks i) (vk i) (Dk i) W/\¬ Dk i b/\∀ x,Dk i x->D x
 apart:∀ i j,i < 16->j < 16->i≠j->∀ x,Dk i x->¬ Dk j x
 lt:∀ x,D x->x < W.heap.size
theorem BrAt.pa{u:vB}{ks:Nat->PA}{b:Nat}{vk:Nat->vV}{Dk:Nat->Nat->Prop}{D:Nat->Prop}{W:vW}(h:BrAt u ks b vk Dk D W):PaO (.br u ks) (brV b) D W:=
 ⟨⟨b,vk,Dk,rfl,h.mem,h.blk,h.kid,h.apart⟩,h.lt⟩
theorem PaO.br{u:vB}{ks:Nat->PA}{b:Nat}{D:Nat->Prop}{W:vW}(h:PaO (.br u ks) (brV b) D W):∃ m o,BrAt u ks b m o D W:=by
 obtain⟨K,m,o,e,A,E,H,J⟩:=h.at'
 unfold brV at e;injection e with _ e;injection e with e;injection e with e;injection e with e;subst e
 exact⟨m,o,A,E,H,J,h.lt⟩
theorem BrAt.keeps{F:BSet}{u:vB}{ks:Nat->PA}{b:Nat}{vk:Nat->vV}{Dk:Nat->Nat->Prop}{D:Nat->Prop}{W W':vW}(h:BrAt u ks b vk Dk D W)(k:jae F W W')(hF:∀ x,D x->¬ F x):BrAt u ks b vk Dk D W':=
 ⟨h.mem,h.blk.keeps k (hF b h.mem),fun i e=>⟨(h.kid i e).1.keeps k _ _ _ (fun x m=>hF x ((h.kid i e).2.2 x m)),(h.kid i e).2⟩,h.apart,fun x m=>bJ (h.lt x m) k.size⟩
theorem BrAt.val{u:vB}{ks:Nat->PA}{b:Nat}{vk:Nat->vV}{Dk:Nat->Nat->Prop}{D:Nat->Prop}{W:vW}(h:BrAt u ks b vk Dk D W)(u':vB):BrAt u' ks b vk Dk D (W.setCell ⟨b,0,none⟩ (.string u')):=by
 have K:=jae.oneSet W ⟨b,0,none⟩ (.string u');have A:=h.blk.set_same (i:=0) (.string u');rw[jwP]at A
 exact⟨h.mem,A,fun i m=>⟨(h.kid i m).1.keeps K _ _ _ (fun x o e=>(h.kid i m).2.1 (by have e:x=b:=e;rw[<-e];exact o)),(h.kid i m).2⟩,h.apart,fun x o=>bJ (h.lt x o) K.size⟩
theorem BrAt.turn{u:vB}{ks:Nat->PA}{b:Nat}{vk:Nat->vV}{Dk:Nat->Nat->Prop}{D:Nat->Prop}{W W1:vW}(h:BrAt u ks b vk Dk D W){i:Nat}(hi:i < 16){P:PA}{v:vV}(k:jae (Dk i) W W1)(hP:PaAt P v (Grow (Dk i) W W1) W1) :
  BrAt u (setK ks i P) b (setV vk i v) (fun j=>if j=i then Grow (Dk i) W W1 else Dk j) (Grow D W W1) (W1.setCell ⟨b,1+i,none⟩ v):=by
 have K:=jae.oneSet W1 ⟨b,1+i,none⟩ v;have Z:=(h.blk.keeps k (h.kid i hi).2.1).set_same (i:=1+i) v;rw[jrc u vk hi]at Z;have a0:=h.lt b h.mem
 refine⟨.inl h.mem,Z,fun j E=>?_,fun j l E X J x o A=>?_,fun x o=>?_⟩
 ·by_cases e:j=i
  ·subst e
   simp only[if_pos,jcl];rw[show setV vk j v j=v from if_pos rfl]
   refine⟨hP.keeps K _ _ _ (fun x o e=>?_),fun e=>?_,fun x o=>?_⟩
   ·have e:x=b:=e
    rw[e]at o;rcases o with o | o
    ·exact (h.kid j hi).2.1 o
    ·omega
   ·rcases e with e | e
    ·exact (h.kid j hi).2.1 e
    ·omega
   ·rcases o with o | o
    ·exact .inl ((h.kid j hi).2.2 x o)
    ·exact .inr o
  ·simp only[if_neg e]
   rw[jeP _ _ e,show setV vk i v j=vk j from if_neg e]
   refine⟨((h.kid j E).1.keeps k _ _ _ (fun x o A=>h.apart j i E hi e x o A)).keeps K _ _ _ (fun x o e=>?_),(h.kid j E).2.1,fun x o=>.inl ((h.kid j E).2.2 x o)⟩
   have e:x=b:=e;rw[e]at o;exact (h.kid j E).2.1 o
 ·have Q:∀ m,m < 16->Dk m x->¬(W.heap.size<=x/\x < W1.heap.size):=fun m hm hd e=>by have:=h.lt x ((h.kid m hm).2.2 x hd);omega
  by_cases e:j=i
  ·subst e
   have O:Grow (Dk j) W W1 x:=by simpa using o
   have H:Dk l x:=by simpa [Ne.symm J]using A
   rcases O with O | O
   ·exact h.apart j l E X J x O H
   ·exact Q l X H O
  ·have O:Dk j x:=by simpa [e]using o
   by_cases e2:l=i
   ·subst e2
    have H:Grow (Dk l) W W1 x:=by simpa using A
    rcases H with H | H
    ·exact h.apart j l E X J x O H
    ·exact Q j E O H
   ·have H:Dk l x:=by simpa [e2]using A
    exact h.apart j l E X J x O H
 ·exact bJ (jeH h.lt k x o) K.size
theorem BrAt.turn_keeps{u:vB}{ks:Nat->PA}{b:Nat}{vk:Nat->vV}{Dk:Nat->Nat->Prop}{D:Nat->Prop}{W W1:vW}(h:BrAt u ks b vk Dk D W){i:Nat}(hi:i < 16)(k:jae (Dk i) W W1)(v:vV):jae D W (W1.setCell ⟨b,1+i,none⟩ v):=
 (k.mono (fun x _ m=>(h.kid i hi).2.2 x m)).trans' (jae.oneSet W1 ⟨b,1+i,none⟩ v) (fun x _ e=>by have e:x=b:=e;rw[e];exact h.mem)
theorem jsC(W:vW)(D:Nat->Prop)(p u:vB):vQ 242 #[.agg #[],.string p,.string u] W (PaTo D W (.leaf p u)):=by
 go_enter Tryz.func242,Tryz.ntmps242;go_wp2_with fail
 go_ret;have o:=((ExtR W).alloc (.cells #[] 206)).alloc (.cells #[.string p,.string u] 197);have m:=Blk.new (W.alloc (.cells #[] 206)) (.cells #[.string p,.string u] 197);rw[bR]at m;exact PaTo.mk1 ⟨_,rfl,.inr ⟨Nat.le_succ _,m.lt⟩,m⟩ (o.mono (fun _ _ e=>e.elim))
theorem jn4(W:vW)(D:Nat->Prop)(u0 u:vB)(ks:Nat->PA)(b:Nat)(h:PaO (.br u0 ks) (brV b) D W):vQ 227 #[.pointer (some ⟨b,0,none⟩),.string ⟨#[]⟩,.string u] W (fun e w'=>e=.returned (brV b)/\PaTo D W (.br u ks) e w'):=by
 obtain⟨E,J,hb⟩:=h.br
 have O:=hb.blk.cellL (i:=0) (v:=.string u0) vF;have Q:W.frozen? ⟨b,0,none⟩=false:=hb.blk.frozen;have H:=Hd hb;have m:(⟨#[]⟩:vB).toList.isEmpty=true:=by rw[bL];rfl
 clear h hb;go_enter Tryz.func227,Tryz.ntmps227;go_wp2_with fail
 go_ret;have K:=jae.oneSet W ⟨b,0,none⟩ (.string u)
 exact⟨rfl,PaTo.mk1 ((H.o.val u).pa.at'.mono (fun x A=>.inl A)) (K.mono (fun x _ e=>by have e:x=b:=e;rw[e];exact H.o.mem))⟩
theorem jt8(W:vW)(D:Nat->Prop)(u0 u:vB)(ks:Nat->PA)(b:Nat)(h:PaO (.br u0 ks) (brV b) D W)(p:vB)(h0:p.size≠0)(hp:jaz p=true)(hs:p.size<=900000)(hn:(ks (jau p)).isNil=false)(hd:Dp (ks (jau p)) 900000)(hk:PutC (ks (jau p))) :
  vQ 227 #[.pointer (some ⟨b,0,none⟩),.string p,.string u] W (fun e w'=>e=.returned (brV b)/\PaTo D W (.br u0 (setK ks (jau p) (putP (ks (jau p)) (jbs p) u))) e w'):=by
 obtain⟨vk,Dk,hb⟩:=h.br
 obtain⟨y,t,hy⟩:=jcm h0
 obtain⟨e1,e2⟩:=jbH hy
 have m:=jdN hp h0
 obtain⟨g0,a5⟩:=jcF hy
 have b0:=jc7 h0;have O:=jct hp;have a2:(jbs p).size<=900000:=by unfold jbs;rw[jaX];omega
 have hI:jau p=(p[0]'g0).toNat:=by rw[e1,a5]
 have H:=hb.kid (jau p) m
 obtain⟨T,x,Z⟩:=H.1.form hn
 have q1:=hb.blk.cellL (jeD u0 vk m);rw[Z]at q1;have HK:=Hd hk;have HB:=Hd hb;have HM:=Hd ((show PaAt (ks (jau p)) (.iface T x) (Dk (jau p)) W by rw[<-Z];exact H.1).meth);have a7:=Hd (show PaAt (ks (jau p)) (.iface T x) (Dk (jau p)) W by rw[<-Z];exact H.1);have a8:=Hd hd;clear hb H hk hd;have a0:=Hd (show ∀ Q,Ext W Q->vQ (jkG (ks (jau p))) #[x,.string (jbs p),.string u] Q (PaTo (Dk (jau p)) Q (putP (ks (jau p)) (jbs p) u))from fun Q e=>HK.o Q T x _ _ _ ⟨a7.o.keeps e _ _ _ (fun _ _ e=>e),fun z hz=>bJ (HB.o.lt z ((HB.o.kid _ m).2.2 z hz)) e.size⟩ a2 O a8.o);have hQ:=jnd T x;have Q1:=Hd q1;have a9:=Hd (show ¬(Dk (jau p) b\/W.heap.size<=b)from fun e=>e.elim (HB.o.kid _ m).2.1 (fun e=>by have:=HB.o.lt b HB.o.mem;omega));have a3:=Hd hI;have A:=Hd m;have b1:=Hd (bB O a2);have c1:(0:Int) < (p.size:Int):=vO
 have c2:((p[0]'g0).toNat:Int) < 16:=vO
 have c3:(1:Int)<=(p.size:Int):=vO
 rw[hI]at q1;have a6:(p[0]'g0).toNat < 16:=vO
 obtain⟨i,hi⟩:=vE (p[0]'g0).toNat
 have b2:=Hd hi;clear h Z hy e1 e2 h0 hp hn a5 O a2 m hI hi;go_enter Tryz.func227,Tryz.ntmps227;go_wp2_with fail
 refine jdf [0,1,2,3,4,5,6,7,8,9,10,11,12,14,15,13,16] 17 [13] Ext (jae (fun z=>Dk (jau p) z\/W.heap.size<=z)) ExtR ExtT (fun x y z h k=>jae.trans h k) (fun x y h=>h.mono (fun _ _ h=>h.elim)) vY vY vY ?_;iterate 4 refine vZ ?_
 refine jcH _ ((.pointer (some ⟨b,0,none⟩))) rfl vY rfl (fun w1=>by kernel_rfl) ?_;refine vS ?_;iterate 2 refine vZ ?_
 refine jgu ⟨b,1+(p[0]'g0).toNat,none⟩ _ rfl vY vY rfl rfl (fun w1 h1=>jaE (fun w=>by kernel_rfl) (by rw[<-a3.o];exact jan Q1.o (((jae.refl (fun z=>Dk (jau p) z\/W.heap.size<=z) W).drew).trans h1) (by exact a9.o))) ?_;refine vS ?_;iterate 3 refine vZ ?_
 refine jcH _ (.iface T x) rfl vY rfl (fun w1=>by kernel_rfl) ?_;refine vS ?_
 refine vZ ?_
 refine jcH _ ((.pointer (some ⟨b,0,none⟩))) rfl vY rfl (fun w1=>by kernel_rfl) ?_;refine vS ?_
 refine vZ ?_
 refine jgs _ rfl vY rfl (fun Q hb K hK=>?_);have kb:Ext W Q:=(jai _).trans hb;refine jbG (jcI (f:=jkG (ks (jau p))) (vs:=#[.string (jbs p),.string u]) rfl (HM.o.put _) (jir _) vY) ?_;refine (a0.o Q kb).mono ?_;rintro e w2 ⟨v2,rfl,X,J⟩
 refine⟨v2,rfl,hK _ _ (J.mono (fun z _ hz=>.inl hz)) ?_⟩
 have HS:=Hd (bB kb (bB X J));clear hK K hb kb X J;refine vS ?_
 refine vZ ?_
 refine jgt _ rfl vY rfl (fun wc hc K hK=>?_)
 obtain⟨hb,X,J⟩:=HS.o
 have E:=HB.o.keeps (F:=fun _=>False) (hb) (fun _ _ e=>e);have kc:jae (Dk (jau p)) Q wc:=J.trans (hc.mono (fun _ _ e=>e.elim));have a4:PaAt (putP (ks (jau p)) (jbs p) u) v2 (Grow (Dk (jau p)) Q wc) wc:=(X.keeps hc _ _ _ (fun _ _ e=>e)).mono (fun z hz=>hz.imp id (fun e=>⟨e.1,bJ e.2 hc.size⟩))
 obtain⟨T2,x2,rfl⟩:=a4.form (jiY _ _ _)
 have ht:=E.turn A.o kc a4;have a1:=E.turn_keeps A.o kc (.iface T2 x2)
 obtain⟨old,q7⟩:∃ v,wc.cell? ⟨b,1+jau p,none⟩=some v:=⟨_,(E.blk.keeps kc (E.kid _ A.o).2.1).cellL (bA (by rw[jgR];have:=A.o;omega))⟩
 have f7:wc.frozen? ⟨b,1+jau p,none⟩=false:=(E.blk.keeps kc (E.kid _ A.o).2.1).frozen;have HT:=Hd (bB ht (bB a1 hb));rw[a3.o]at q7 f7;clear hb X J E kc a4 ht a1 hc;go_simp;refine hK _ _ ?_;clear hK K q7 f7;go_wp2_with fail
 go_ret
 obtain⟨ht,a1,hb⟩:=HT.o
 rw[<-a3.o]
 exact⟨rfl,PaTo.mk1 (ht.pa.at'.mono (fun z hz=>hz.imp id (fun e=>⟨bG hb.size e.1,bJ e.2 (jae.oneSet wc ⟨b,1+jau p,none⟩ (.iface T2 x2)).size⟩))) (((hb.mono (fun _ _ e=>e.elim)):jae D W Q).trans a1)⟩
theorem jn3(W:vW)(D:Nat->Prop)(u0 u:vB)(ks:Nat->PA)(b:Nat)(h:PaO (.br u0 ks) (brV b) D W)(p:vB)(h0:p.size≠0)(hp:jaz p=true)(hs:p.size<=900000)(hn:(ks (jau p)).isNil=true) :
  vQ 227 #[.pointer (some ⟨b,0,none⟩),.string p,.string u] W (fun e w'=>e=.returned (brV b)/\PaTo D W (.br u0 (setK ks (jau p) (.leaf (jbs p) u))) e w'):=by
 obtain⟨vk,Dk,hb⟩:=h.br
 obtain⟨y,t,hy⟩:=jcm h0
 obtain⟨e1,e2⟩:=jbH hy
 have m:=jdN hp h0
 obtain⟨g0,a9⟩:=jcF hy
 have b9:=jc7 h0;have a2:=jct hp;have b0:(jbs p).size<=900000:=by unfold jbs;rw[jaX];omega
 have hI:jau p=(p[0]'g0).toNat:=by rw[e1,a9]
 have a3:=hb.kid (jau p) m;have b1:vk (jau p)=.nilIface:=by have:=a3.1;rw[jbv hn]at this;exact this
 have q1:=hb.blk.cellL (jeD u0 vk m);rw[b1]at q1;have f1:W.frozen? ⟨b,1+jau p,none⟩=false:=hb.blk.frozen
 obtain⟨W1,J⟩:=vE (W.setCell ⟨b,1+jau p,none⟩ noV)
 have X:=hb.turn m (P:=.no) (v:=noV) (jae.refl _ W) rfl;rw[<-J]at X
 obtain⟨O,a4⟩:=vE (fun j=>if j=jau p then Grow (Dk (jau p)) W W else Dk j)
 obtain⟨b6,Z⟩:=vE (setK ks (jau p) .no)
 have a5:setK b6 (jau p) (.leaf (jbs p) u)=setK ks (jau p) (.leaf (jbs p) u):=by
  funext j;unfold setK;rw[Z];unfold setK
  by_cases e:j=jau p
  ·rw[if_pos e,if_pos e]
  ·rw[if_neg e,if_neg e,if_neg e]
 rw[<-a4, <-Z]at X;have b2:W1.cell? ⟨b,1+jau p,none⟩=some noV:=by
  have:=X.blk.cellL (jeD u0 _ m)
  rw[this];show some (setV vk (jau p) noV (jau p))=_;unfold setV;rw[if_pos rfl]
 have c0:=Hd J;have b7:=Hd a5;have b3:Hid (∀ z,Grow D W W z->D z):=(fun z H=>H.elim id (fun e=>by omega));have b4:=Hd (show jae D W W1 by rw[J];exact (jae.oneSet W ⟨b,1+jau p,none⟩ noV).mono (fun z _ e=>by have e:z=b:=e;rw[e];exact hb.mem));have HB:=Hd X;have Q1:=Hd b2;clear a4 Z X b2 a5 hb a3;unfold noV at J Q1;have a0:=Hd (show ∀ wb,Ext W1 wb->vQ 242 #[.agg #[],.string (jbs p),.string u] wb (PaTo (O (jau p)) wb (.leaf (jbs p) u))from fun wb _=>jsC wb _ _ _);have b8:=Hd (show ¬(O (jau p) b\/W1.heap.size<=b)from fun e=>e.elim (HB.o.kid _ m).2.1 (fun e=>by have:=HB.o.lt b HB.o.mem;omega));have a7:=Hd hI;have A:=Hd m;have c4:=Hd (bB a2 b0);have c1:(0:Int) < (p.size:Int):=vO
 have c2:((p[0]'g0).toNat:Int) < 16:=vO
 have c3:(1:Int)<=(p.size:Int):=vO
 rw[hI]at q1 f1 J;have b5:(p[0]'g0).toNat < 16:=vO
 obtain⟨i,hi⟩:=vE (p[0]'g0).toNat
 have c5:=Hd hi;clear h b1 hy e1 e2 h0 hp hn a9 a2 b0 m hI hi;go_enter Tryz.func227,Tryz.ntmps227;go_wp2_with fail
 rw[<-J];refine jdf [0,1,2,3,4,5,6,7,8,9,10,11,12,14,15,13,16] 17 [13] Ext (jae (fun z=>O (jau p) z\/W1.heap.size<=z)) ExtR ExtT (fun x y z h k=>jae.trans h k) (fun x y h=>h.mono (fun _ _ h=>h.elim)) vY vY vY ?_;iterate 4 refine vZ ?_
 refine jcH _ ((.pointer (some ⟨b,0,none⟩))) rfl vY rfl (fun w1=>by kernel_rfl) ?_;refine vS ?_;iterate 2 refine vZ ?_
 refine jgu ⟨b,1+(p[0]'g0).toNat,none⟩ _ rfl vY vY rfl rfl (fun w1 h1=>jaE (fun w=>by kernel_rfl) (by rw[<-a7.o];exact jan Q1.o (((jae.refl (fun z=>O (jau p) z\/W1.heap.size<=z) W1).drew).trans h1) (by exact b8.o))) ?_;refine vS ?_;iterate 3 refine vZ ?_
 refine jcH _ (.iface 206 (.agg #[])) rfl vY rfl (fun w1=>by kernel_rfl) ?_;refine vS ?_
 refine vZ ?_
 refine jcH _ ((.pointer (some ⟨b,0,none⟩))) rfl vY rfl (fun w1=>by kernel_rfl) ?_;refine vS ?_
 refine vZ ?_
 refine jgs _ rfl vY rfl (fun wb hb K hK=>?_);have kb:Ext W1 wb:=(jai _).trans hb;refine jbG (jcI (f:=242) (vs:=#[.string (jbs p),.string u]) rfl (jxo.put _) (fun args w=>by kernel_rfl) vY) ?_;refine (a0.o wb kb).mono ?_;rintro e w2 ⟨v2,rfl,a1,Q⟩
 refine⟨v2,rfl,hK _ _ (Q.mono (fun z _ H=>.inl H)) ?_⟩
 have HS:=Hd (bB kb (bB a1 Q));clear hK K hb kb a1 Q;refine vS ?_
 refine vZ ?_
 refine jgt _ rfl vY rfl (fun wc hc K hK=>?_)
 obtain⟨hb,a1,Q⟩:=HS.o
 have E:=HB.o.keeps (F:=fun _=>False) (hb) (fun _ _ e=>e);have kc:jae (O (jau p)) wb wc:=Q.trans (hc.mono (fun _ _ e=>e.elim));have a8:PaAt (PA.leaf (jbs p) u) v2 (Grow (O (jau p)) wb wc) wc:=(a1.keeps hc _ _ _ (fun _ _ e=>e)).mono (fun z H=>H.imp id (fun e=>⟨e.1,bJ e.2 hc.size⟩))
 obtain⟨T2,x2,rfl⟩:=a8.form rfl
 have ht:=E.turn A.o kc a8;have a6:=E.turn_keeps A.o kc (.iface T2 x2)
 obtain⟨old,q7⟩:∃ v,wc.cell? ⟨b,1+jau p,none⟩=some v:=⟨_,(E.blk.keeps kc (E.kid _ A.o).2.1).cellL (bA (by rw[jgR];have:=A.o;omega))⟩
 have f7:wc.frozen? ⟨b,1+jau p,none⟩=false:=(E.blk.keeps kc (E.kid _ A.o).2.1).frozen;have HT:=Hd (bB ht (bB a6 hb));rw[a7.o]at q7 f7;clear hb a1 Q E kc a8 ht a6 hc;go_simp;refine hK _ _ ?_;clear hK K q7 f7;go_wp2_with fail
 go_ret
 obtain⟨ht,a6,hb⟩:=HT.o
 rw[<-a7.o];have a5:=b7.o
 refine⟨rfl,PaTo.mk1 (PaAt.mono (fun z H=>?_) (by rw[<-a5];exact ht.pa.at')) ((b4.o.trans (hb.mono (fun _ _ e=>e.elim))).trans (a6.mono (fun z _ H=>b3.o z H)))⟩
 rcases H with H | H
 ·exact .inl (b3.o z H)
 ·exact .inr ⟨bG (bG b4.o.size hb.size) H.1,bJ H.2 (jae.oneSet wc ⟨b,1+jau p,none⟩ (.iface T2 x2)).size⟩
end
section
attribute [local go_sem] Oper.semAt_some
def AddP(D:Nat->Prop)(W:vW)(b:Nat)(P:PA)(e:Ending)(w':vW):Prop:=e=.returned (brV b)/\PaAt P (brV b) (Grow D W w') w'/\jae D W w'
theorem jkb(W:vW)(D:Nat->Prop)(v:vB)(ks:Nat->PA)(b:Nat)(h:PaO (.br v ks) (brV b) D W)(p u:vB)(hp:jaz p=true)(hs:p.size<=900000)(hf:∀ x t,p.data.toList=x :: t->(ks x.toNat).isNil=true) :
  vQ 227 #[.pointer (some ⟨b,0,none⟩),.string p,.string u] W (AddP D W b (addK (.br v ks) p u)):=by
 rw[jcW]
 by_cases h0:p.size=0
 ·rw[if_pos h0,jbj h0]
  refine (jn4 W D v u ks b h).mono ?_;rintro e w' ⟨rfl,E,e,m,o⟩;injection e with e;subst e
  exact⟨rfl,m,o⟩
 ·rw[if_neg h0]
  obtain⟨x,t,A⟩:=jcm h0
  refine (jn3 W D v u ks b h p h0 hp hs (by rw[(jbH A).1];exact hf x t A)).mono ?_;rintro e w' ⟨rfl,E,e,m,o⟩;injection e with e;subst e
  exact⟨rfl,m,o⟩
theorem jvY{W:vW}{b:Nat}(h:Blk W b (.cells #[.string ⟨#[]⟩,.nilIface,.nilIface,.nilIface,.nilIface,.nilIface,.nilIface,.nilIface,.nilIface,.nilIface,.nilIface,.nilIface,.nilIface,.nilIface,.nilIface,.nilIface,.nilIface] 204)) :
  BrAt ⟨#[]⟩ (fun _=>.nil) b (fun _=>.nilIface) (fun _ _=>False) (fun x=>x=b) W:=
 ⟨rfl,h,fun i _=>⟨rfl,fun e=>e,fun _ e=>e.elim⟩,fun _ _ _ _ _ _ e=>e.elim,fun x e=>by rw[e];exact h.lt⟩
theorem AddP.br{D:Nat->Prop}{W w':vW}{b:Nat}{P:PA}(h:PaAt P (brV b) (Grow D W w') w')(k:jae D W w')(hl:∀ x,D x->x < W.heap.size):PaO P (brV b) (Grow D W w') w':=⟨h,jeH hl k⟩
theorem jsa(W:vW)(D:Nat->Prop)(q v u:vB)(b:Nat)(m:Blk W b (.cells #[.string q,.string v] 197)):vQ 225 #[.pointer (some ⟨b,0,none⟩),.string q,.string u] W (PaTo D W (.leaf q u)):=by
 have A:=m.cell (i:=0) (v:=.string q) vF;clear m;have o:(q.toList == q.toList)=true:=by simp
 go_enter Tryz.func225,Tryz.ntmps225;go_wp2_with fail
 go_ret;have m:=Blk.new W (.cells #[.string q,.string u] 197);exact PaTo.mk1 ⟨_,rfl,.inr ⟨bM _,m.lt⟩,m⟩ (((ExtR W).alloc _).mono (fun _ _ e=>e.elim))
theorem jvL(q p v:vB):(∀ x t,(q.extract (jal q p) q.size).data.toList=x :: t->PA.isNil ((fun _=>PA.nil) x.toNat)=true)/\∃ v1 ks1,addK (.br ⟨#[]⟩ fun _=>.nil) (q.extract (jal q p) q.size) v=.br v1 ks1/\∀ x t,(p.extract (jal q p) p.size).data.toList=x :: t->(ks1 x.toNat).isNil=true:=by
 refine⟨fun _ _ _=>rfl,?_⟩
 obtain⟨J,K,Z,hb,m,o,A⟩:=jcN q.data.toList p.data.toList
 have e:(q.extract (jal q p) q.size).data.toList=J:=by rw[jdL,m];rfl
 have E:(p.extract (jal q p) p.size).data.toList=K:=by rw[jdL,o];rfl
 obtain⟨O,Q⟩:∃ x,x=q.extract (jal q p) q.size:=⟨_,rfl⟩
 rw[<-Q]at e ⊢;rw[jcW]
 by_cases h0:O.size=0
 ·rw[if_pos h0];exact⟨_,_,rfl,fun _ _ _=>rfl⟩
 ·rw[if_neg h0]
  refine⟨_,_,rfl,fun y t X=>?_⟩
  obtain⟨x,s,H⟩:=jcm h0
  unfold setK;rw[(jbH H).1,if_neg (jde (Ne.symm (A x s y t (by rw[<-e,H]) (by rw[<-E,X]))))];rfl
theorem jp7(W:vW)(D:Nat->Prop)(q v p u:vB)(b:Nat)(hB:Blk W b (.cells #[.string q,.string v] 197))(hne:p≠q)(hq:jaz q=true)(hp:jaz p=true)(hqs:q.size<=900000)(hps:p.size<=900000) :
  vQ 225 #[.pointer (some ⟨b,0,none⟩),.string p,.string u] W (PaTo D W (putP (.leaf q v) p u)):=by
 have q0:=hB.cell (i:=0) (v:=.string q) vF;have Q0:=Hd q0;have Q1:=Hd (hB.cell (i:=1) (v:=.string v) vF);have HB:=Hd hB;have d3:(p.toList == q.toList)=false:=by rw[jhX];exact decide_eq_false hne
 obtain⟨c1,c2⟩:=je5 q p
 have Q:putP (.leaf q v) p u=jcf (p.extract 0 (jal q p)) (addK (addK (.br ⟨#[]⟩ fun _=>.nil) (q.extract (jal q p) q.size) v) (p.extract (jal q p) p.size) u):=by
  show (if p=q then PA.leaf p u else _)=_;rw[if_neg hne]
 have X:=jvL q p v;have Z:=fun w=>jfw w q p vO vO
 obtain⟨m,hm⟩:=vE (jal q p)
 rw[<-hm]at c1 c2 Q X Z;rw[Q];have b0:(q.extract m q.size).size<=900000:=by rw[jaX];omega
 have b1:(p.extract m p.size).size<=900000:=by rw[jaX];omega
 have b2:(p.extract 0 m).size<=900000:=by rw[cH];omega
 have b3:jaz (q.extract m q.size)=true:=jbi hq _ _;have b4:jaz (p.extract m p.size)=true:=jbi hp _ _
 obtain⟨E,v1,a1,e1,H⟩:=X
 have b5:Dp (addK (.br v1 a1) (p.extract m p.size) u) 1000000:=jim (by rw[<-e1];exact jim (jhL _ _) vO _) vO _;have b6:(addK (.br v1 a1) (p.extract m p.size) u).isNil=false:=by rw[jcW];split <;> rfl
 rw[e1];have HF:=Hd (bB (bB E (bB e1 H)) (bB b0 (bB b1 (bB b2 (bB b3 b4)))));have b7:=Hd (bB b5 b6);have HC:=Hd Z;have d4:(m:Int)<=(q.size:Int):=vO
 have d5:(m:Int)<=(p.size:Int):=vO
 clear hB hne hq hp Q hm E H e1 b5 b6 b0 b1 b2 b3 b4 Z;go_enter Tryz.func225,Tryz.ntmps225;go_wp2_with fail
 refine (HC.o _).mono ?_;rintro e w1 ⟨rfl,n,rfl⟩;go_wp2_with fail
 obtain⟨A,a2⟩:=vE W.heap.size
 obtain⟨W2,a3⟩:=vE ((W.drewN n).alloc (.cells #[.string ⟨#[]⟩,.nilIface,.nilIface,.nilIface,.nilIface,.nilIface,.nilIface,.nilIface,.nilIface,.nilIface,.nilIface,.nilIface,.nilIface,.nilIface,.nilIface,.nilIface,.nilIface] 204))
 have b8:Ext W W2:=by rw[a3];exact ((ExtR W).drewN n).alloc _
 have b9:BrAt ⟨#[]⟩ (fun _=>.nil) A (fun _=>.nilIface) (fun _ _=>False) (fun x=>x=A) W2:=by rw[a3,a2];exact jvY (Blk.new (W.drewN n) _)
 have c0:W.heap.size<=A:=by rw[a2];exact bM _
 have a4:=Hd b8;have c3:=Hd b9;have a8:=Hd c0;have c4:=Hd (show ¬ W.heap.size<=b from by have:=HB.o.lt;omega);rw[<-a3, <-a2];clear a2 a3 b8 b9 c0;refine jaJ [0,1,2,3,4,5,6,7,8,9,10,11] [11] Ext (jae (fun z=>W.heap.size<=z)) ExtR ExtT (fun x y z h k=>jae.trans h k) (fun x y h=>h.mono (fun _ _ h=>h.elim)) vY vY vY ?_;iterate 2 refine vD ?_
 refine qDV _ ((.pointer (some ⟨b,0,none⟩))) rfl (fun w1 _=>by kernel_rfl) ?_;refine vS ?_
 refine vD ?_
 refine qDL ⟨b,0,none⟩ _ rfl (fun w1 h1=>jaE (fun w=>by kernel_rfl) (jan (jaa Q0.o a4.o) (((jae.refl (fun z=>W.heap.size<=z) W2).drew).trans h1) (by exact c4.o))) ?_;refine vS ?_;iterate 3 refine vD ?_
 refine qDV _ ((.pointer (some ⟨b,0,none⟩))) rfl (fun w1 _=>by kernel_rfl) ?_;refine vS ?_
 refine vD ?_
 refine qDL ⟨b,1,none⟩ _ rfl (fun w1 h1=>jaE (fun w=>by kernel_rfl) (jan (jaa Q1.o a4.o) (((jae.refl (fun z=>W.heap.size<=z) W2).drew).trans h1) (by exact c4.o))) ?_;refine vS ?_;refine qDH _ rfl (fun wb hb K hK=>?_);have kb:Ext W2 wb:=(jai _).trans hb
 obtain⟨E,e1,H⟩:=HF.o.1
 refine jbG (jat (vX 227) vY) ((jkb wb (fun x=>x=A) ⟨#[]⟩ (fun _=>.nil) A ((c3.o.keeps kb (fun _ _ e=>e)).pa) (q.extract m q.size) v HF.o.2.2.2.2.1 HF.o.2.1 E).mono ?_);rintro e w3 ⟨rfl,J,O⟩
 refine⟨_,rfl,hK _ _ (O.mono (fun z _ e=>by have e:z=A:=e;rw[e];exact a8.o)) ?_⟩
 rw[e1]at J;have HS:=Hd (bB kb (bB J O));clear hK K hb kb J O e1;refine vS ?_;refine qDE (fun wc hc=>?_)
 obtain⟨kb,J,O⟩:=HS.o
 have kc:jae (fun x=>x=A) wb wc:=O.trans (hc.mono (fun _ _ e=>e.elim));have c5:PaAt (.br v1 a1) (brV A) (Grow (fun x=>x=A) wb wc) wc:=(J.keeps hc _ _ _ (fun _ _ e=>e)).mono (fun z hz=>hz.imp id (fun e=>⟨e.1,bJ e.2 hc.size⟩));have c6:=AddP.br c5 kc (fun x e=>by have e:x=A:=e;rw[e];exact bJ c3.o.blk.lt kb.size);have c7:Ext W wc:=(a4.o.trans kb).trans' kc (fun x hx e=>by have e:x=A:=e;have:=a8.o;omega);have a5:=Hd (bB c6 c7);have c8:Hid (∀ x,Grow (fun x=>x=A) wb wc x->W.heap.size<=x):=(fun x hx=>hx.elim (fun e=>by rw[e];exact a8.o) (fun e=>bG (bG a4.o.size kb.size) e.1));clear hc kb J O kc c5 c6 c7 HS;go_wp2_with fail
 obtain⟨E,e1,H⟩:=HF.o.1
 refine (jkb wc _ v1 a1 A a5.o.1 (p.extract m p.size) u HF.o.2.2.2.2.2 HF.o.2.2.1 H).mono ?_;rintro e w4 ⟨rfl,c9,a9⟩;have d0:=AddP.br c9 a9 a5.o.1.lt;have d1:Ext W w4:=a5.o.2.trans' a9 (fun x hx e=>by have:=c8.o x e;omega);have d2:Hid (∀ x,Grow (Grow (fun x=>x=A) wb wc) wc w4 x->W.heap.size<=x):=fun x hx=>hx.elim (c8.o x) (fun e=>bG a5.o.2.size e.1);have a6:=Hd (bB d0 d1);clear c9 a9 d0 d1 e1 E H;unfold brV;go_wp2_with fail
 refine (pj_c w4 _ (p.extract 0 m) _ (brV A) a6.o.1 b7.o.2 (by have:=HF.o.2.2.2.1;omega) b7.o.1).mono ?_;rintro e w5 ⟨v5,rfl,a7,a0⟩;have HZ:=Hd (bB a7 a0);clear a7 a0;go_wp2_with fail
 go_ret
 obtain⟨a7,a0⟩:=HZ.o
 exact PaTo.mk1 (a7.mono (fun x hx=>.inr ⟨hx.elim (d2.o x) (fun e=>bG a6.o.2.size e.1),(jeH a6.o.1.lt a0) x hx⟩)) ((a6.o.2.trans a0).mono (fun _ _ e=>e.elim))
theorem BrAt.give{u:vB}{ks:Nat->PA}{b:Nat}{vk:Nat->vV}{Dk:Nat->Nat->Prop}{D E:Nat->Prop}{W:vW}(h:BrAt u ks b vk Dk D W){i:Nat}(hi:i < 16){P:PA}{v:vV}(hP:PaAt P v E W)(hE:∀ x,E x->¬ D x/\x < W.heap.size) :
  BrAt u (setK ks i P) b (setV vk i v) (fun j=>if j=i then E else Dk j) (fun x=>D x\/E x) (W.setCell ⟨b,1+i,none⟩ v):=by
 have K:=jae.oneSet W ⟨b,1+i,none⟩ v;have Q:=h.blk.set_same (i:=1+i) v;rw[jrc u vk hi]at Q
 refine⟨.inl h.mem,Q,fun j o=>?_,fun j l o X H x m A=>?_,fun x m=>?_⟩
 ·by_cases e:j=i
  ·subst e
   simp only[if_pos,jcl];rw[show setV vk j v j=v from if_pos rfl]
   refine⟨hP.keeps K _ _ _ (fun x m e=>?_),fun e=>(hE b e).1 h.mem,fun x m=>.inr m⟩
   have e:x=b:=e;rw[e]at m;exact (hE b m).1 h.mem
  ·simp only[if_neg e]
   rw[jeP _ _ e,show setV vk i v j=vk j from if_neg e]
   refine⟨(h.kid j o).1.keeps K _ _ _ (fun x m e=>?_),(h.kid j o).2.1,fun x m=>.inl ((h.kid j o).2.2 x m)⟩
   have e:x=b:=e;rw[e]at m;exact (h.kid j o).2.1 m
 ·by_cases e:j=i
  ·subst e
   have O:E x:=by simpa using m
   have J:Dk l x:=by simpa [Ne.symm H]using A
   exact (hE x O).1 ((h.kid l X).2.2 x J)
  ·have O:Dk j x:=by simpa [e]using m
   by_cases e2:l=i
   ·subst e2
    have J:E x:=by simpa using A
    exact (hE x J).1 ((h.kid j o).2.2 x O)
   ·have J:Dk l x:=by simpa [e2]using A
    exact h.apart j l o X H x O J
 ·rcases m with m | m
  ·exact bJ (h.lt x m) K.size
  ·exact bJ (hE x m).2 K.size
theorem jxb{q:vB}{m:Nat}(h:m < q.size):jau (q.extract m q.size)=(q[m]).toNat:=by
 unfold jau;have e:m < q.data.toList.length:=by rw[jaI];exact h
 rw[jdL,fP e];rfl
theorem jw0(W:vW)(D:Nat->Prop)(q:vB)(n:PA)(T:TypeId)(x:vV)(Dn:Nat->Prop)(b:Nat)(hB:Blk W b (.cells #[.string q,.iface T x] 200))(hv:PaAt n (.iface T x) Dn W)(hbn:¬ Dn b)(hD:∀ x,Dn x->D x/\x < W.heap.size)(p u:vB)(hq:jaz q=true)(hp:jaz p=true)(hqs:q.size<=900000)(hps:p.size<=900000)(Q:Dp n 900000)(hk:PutC n)(hnil:n.isNil=false)(hf:jal q p=q.size) :
  vQ 232 #[.pointer (some ⟨b,0,none⟩),.string p,.string u] W (PaTo D W (jcf q (putP n (p.extract q.size p.size) u))):=by
 have q0:=hB.cell (i:=0) (v:=.string q) vF;have q1:=hB.cell (i:=1) (v:=.iface T x) vF;have Q0:=Hd q0;have Q1:=Hd q1;have HB:=Hd hB;have HV:=Hd hv;have HD:Hid (∀ z,Dn z->D z/\z < W.heap.size):=hD
 obtain⟨c1,c2⟩:=je5 q p
 have H:=fun w=>jfw w q p vO vO;rw[hf]at c1 c2 H;have HC:=Hd H;have a8:=hB.lt;have a4:=Hd (show ¬(Dn b\/W.heap.size<=b)from fun e=>e.elim hbn (fun e=>by omega));have a0:jaz (p.extract q.size p.size)=true:=jbi hp _ _;have a2:(p.extract q.size p.size).size<=900000:=by rw[jaX];omega
 have HM:=Hd hv.meth;have Z:=Hd (show ∀ J,Ext W J->vQ (jkG n) #[x,.string (p.extract q.size p.size),.string u] J (PaTo Dn J (putP n (p.extract q.size p.size) u))from fun J e=>hk J T x Dn _ _ ⟨hv.keeps e _ _ _ (fun _ _ e=>e),fun z m=>bJ (hD z m).2 e.size⟩ a2 a0 Q);have a9:Hid (Dp (putP n (p.extract q.size p.size) u) 1000000):=(jcd _ _ _ (jof n 900000 _ u Q a2) vO);have b1:(q.size:Int)<=(p.size:Int):=vO
 have b2:((q.size:Int) ==(q.size:Int))=true:=by simp
 clear hB hv hbn hD hq hp Q hk hf a0 a2 H a8;go_enter Tryz.func232,Tryz.ntmps232;go_wp2_with fail
 refine (HC.o _).mono ?_;rintro e w1 ⟨rfl,k,rfl⟩;have a5:=Hd (show jae (fun z=>Dn z\/W.heap.size<=z) W ((W.drewN k).drew)from((jae.refl _ W).drewN k).drew);go_wp2_with fail
 refine jaJ [0,1,2,3,4,5,6,7,8,9,10,11,12,13,14,15,16] [14,15] Ext (jae (fun z=>Dn z\/W.heap.size<=z)) ExtR ExtT (fun x y z h k=>jae.trans h k) (fun x y h=>h.mono (fun _ _ h=>h.elim)) vY vY vY ?_
 refine vD ?_
 refine qDV _ ((.pointer (some ⟨b,0,none⟩))) rfl (fun w1 _=>by kernel_rfl) ?_;refine vS ?_
 refine vD ?_
 refine qDL ⟨b,0,none⟩ _ rfl (fun w1 h1=>jaE (fun w=>by kernel_rfl) (jan Q0.o (a5.o.trans h1) (by exact a4.o))) ?_;refine vS ?_
 refine vD ?_
 refine qDV _ ((.pointer (some ⟨b,0,none⟩))) rfl (fun w1 _=>by kernel_rfl) ?_;refine vS ?_
 refine vD ?_
 refine qDL ⟨b,1,none⟩ _ rfl (fun w1 h1=>jaE (fun w=>by kernel_rfl) (jan Q1.o (a5.o.trans h1) (by exact a4.o))) ?_;refine vS ?_;iterate 4 refine vD ?_
 refine qDV _ (.iface T x) rfl (fun w1 _=>by kernel_rfl) ?_;refine vS ?_
 refine vD ?_
 refine qDH _ rfl (fun J hb K hK=>?_);have X:Ext W J:=(((ExtR W).drewN k).drew).trans hb;refine jbG (jcI (f:=jkG n) (vs:=#[.string (p.extract q.size p.size),.string u]) rfl (HM.o.put _) (jir _) vY) ?_;refine (Z.o J X).mono ?_;rintro e w2 ⟨v2,rfl,O,A⟩
 refine⟨v2,rfl,hK _ _ (A.mono (fun z _ m=>.inl m)) ?_⟩
 have HS:=Hd (bB X (bB O A));clear hK K hb X O A;refine vS ?_;refine qDH _ rfl (fun wc hc K hK=>?_)
 obtain⟨X,O,A⟩:=HS.o
 have kc:jae Dn J wc:=A.trans (hc.mono (fun _ _ e=>e.elim));have a6:PaAt (putP n (p.extract q.size p.size) u) v2 (Grow Dn J wc) wc:=(O.keeps hc _ _ _ (fun _ _ e=>e)).mono (fun z m=>m.imp id (fun e=>⟨e.1,bJ e.2 hc.size⟩));have a3:=PaTo.own a6 kc (fun z m=>bJ (HD.o z m).2 X.size);refine jbG (jat (vX 228) vY) ((pj_c wc _ q _ v2 a3 (jiY _ _ _) vO a9.o).mono ?_);rintro e w5 ⟨v5,rfl,a1,E⟩
 refine⟨v5,rfl,hK _ _ (E.mono (fun _ _ e=>e.elim)) ?_⟩
 have HZ:=Hd (bB kc (bB a1 (bB E (jeH a3.lt E))));clear hK K hc X O A kc a6 a3 a1 E;refine vS ?_
 refine vD ?_
 refine qDE (fun wd Q=>?_);have HQ:=Hd Q;clear Q;go_wp2_with fail
 go_ret
 obtain⟨X,_,_⟩:=HS.o
 obtain⟨kc,a1,E,b0⟩:=HZ.o
 have Q:=HQ.o;refine PaTo.mk1 ((a1.keeps Q _ _ _ (fun _ _ e=>e)).mono (fun z m=>?_)) (((X.mono (fun _ _ e=>e.elim):jae D W J).trans (kc.mono (fun z _ m=>(HD.o z m).1))).trans ((E.trans Q).mono (fun _ _ e=>e.elim)));have a7:=bJ (b0 z m) Q.size;rcases m with (m | m) | m
 ·exact .inl (HD.o z m).1
 ·exact .inr ⟨bG X.size m.1,a7⟩
 ·exact .inr ⟨bG (bG X.size kc.size) m.1,a7⟩
theorem juv(q p:vB)(n:PA)(h:jal q p < q.size):∀ x t,(p.extract (jal q p) p.size).data.toList=x :: t->(setK (fun _=>.nil) (jau (q.extract (jal q p) q.size)) (jcf (q.extract (jal q p+1) q.size) n) x.toNat).isNil=true:=by
 obtain⟨J,K,X,hb,e,m,o⟩:=jcN q.data.toList p.data.toList
 have A:(q.extract (jal q p) q.size).data.toList=J:=by rw[jdL,e];rfl
 have E:(p.extract (jal q p) p.size).data.toList=K:=by rw[jdL,m];rfl
 have O:(q.extract (jal q p) q.size).size≠0:=by rw[jaX];omega
 intro y t Q
 obtain⟨x,s,H⟩:=jcm O
 unfold setK;rw[(jbH H).1,if_neg (jde (Ne.symm (o x s y t (by rw[<-A,H]) (by rw[<-E,Q]))))];rfl
theorem jut(W:vW)(D:Nat->Prop)(q:vB)(n:PA)(T:TypeId)(x:vV)(Dn:Nat->Prop)(b:Nat)(hB:Blk W b (.cells #[.string q,.iface T x] 200))(hv:PaAt n (.iface T x) Dn W)(hbn:¬ Dn b)(hD:∀ x,Dn x->D x/\x < W.heap.size)(p u:vB)(hq:jaz q=true)(hp:jaz p=true)(hqs:q.size<=900000)(hps:p.size<=900000)(hd:Dp n (900000 - q.size))(hnil:n.isNil=false)(hf:jal q p≠q.size) :
  vQ 232 #[.pointer (some ⟨b,0,none⟩),.string p,.string u] W (PaTo D W (jcf (p.extract 0 (jal q p)) (addK (.br ⟨#[]⟩ (setK (fun _=>.nil) (jau (q.extract (jal q p) q.size)) (jcf (q.extract (jal q p+1) q.size) n))) (p.extract (jal q p) p.size) u))):=by
 have q0:=hB.cell (i:=0) (v:=.string q) vF;have q1:=hB.cell (i:=1) (v:=.iface T x) vF;have Q0:=Hd q0;have Q1:=Hd q1;have HB:=Hd hB;have HV:=Hd hv;have HD:Hid (∀ z,Dn z->D z/\z < W.heap.size):=hD
 obtain⟨c1,c2⟩:=je5 q p
 have X:=fun w=>jfw w q p vO vO;have H:=juv q p n (show jal q p < q.size by omega)
 obtain⟨m,hm⟩:=vE (jal q p)
 rw[<-hm]at c1 c2 X hf H ⊢;have HC:=Hd X;have d4:=hB.lt;have b2:=Hd (show ¬ W.heap.size<=b from by omega);have b8:m < q.size:=vO
 have b9:jau (q.extract m q.size) < 16:=jdN (jbi hq _ _) (by rw[jaX];omega);have b3:=jxb b8;have b4:=Hd (bB b9 b3);have c0:=Hd (bB (jbi hp m p.size) (show (p.extract m p.size).size<=900000 by rw[jaX];omega));have a5:=Hd (bB hnil (bB (show (q.extract (m+1) q.size).size<=900000 by rw[jaX];omega) hd));have c3:Dp (jcf (q.extract (m+1) q.size) n) (900000 - m - 1):=jfV (jcd _ _ _ hd (by rw[jaX];omega)) (by rw[jaX];omega);have c4:Dp (addK (.br ⟨#[]⟩ (setK (fun _=>.nil) (jau (q.extract m q.size)) (jcf (q.extract (m+1) q.size) n))) (p.extract m p.size) u) (900000 - m):=jim (jio (jhL ⟨#[]⟩ _) vO c3 _) (by rw[jaX];omega) _;have c5:(addK (.br ⟨#[]⟩ (setK (fun _=>.nil) (jau (q.extract m q.size)) (jcf (q.extract (m+1) q.size) n))) (p.extract m p.size) u).isNil=false:=by rw[jcW];split <;> rfl
 have c6:=Hd (bB c4 c5);have d5:=Hd H;have a3:(p.extract 0 m).size<=900000:=by rw[cH];omega
 have d6:=Hd a3;have d7:(m:Int)<=(q.size:Int):=vO
 have d8:(m:Int)<=(p.size:Int):=vO
 have d9:(m:Int) < (q.size:Int):=vO
 have e0:(m:Int)+1<=(q.size:Int):=vO
 have e1:((q[m]'b8).toNat:Int) < 16:=by rw[<-b3];omega
 have e2:((m:Int) ==(q.size:Int))=false:=by simp;omega
 clear hB hv hbn hD hq hp hd hf X d4 H b9 b3 c3 c4 c5 hnil hm a3;go_enter Tryz.func232,Tryz.ntmps232;go_wp2_with fail
 refine (HC.o _).mono ?_;rintro e w1 ⟨rfl,k,rfl⟩;go_wp2_with fail
 obtain⟨E,a6⟩:=vE W.heap.size
 obtain⟨W2,a7⟩:=vE ((W.drewN k).alloc (.cells #[.string ⟨#[]⟩,.nilIface,.nilIface,.nilIface,.nilIface,.nilIface,.nilIface,.nilIface,.nilIface,.nilIface,.nilIface,.nilIface,.nilIface,.nilIface,.nilIface,.nilIface,.nilIface] 204))
 have c7:Ext W W2:=by rw[a7];exact ((ExtR W).drewN k).alloc _
 have c8:BrAt ⟨#[]⟩ (fun _=>.nil) E (fun _=>.nilIface) (fun _ _=>False) (fun x=>x=E) W2:=by rw[a7,a6];exact jvY (Blk.new (W.drewN k) _)
 have c9:W.heap.size<=E:=by rw[a6];exact bM _
 have J:=Hd c7;have a8:=Hd c8;have a9:=Hd c9;rw[<-a7, <-a6];clear a6 a7 c7 c8 c9;refine jaJ [0,1,2,3,4,5,6,7,8,9,10,11,12,13,14,15,16,17,19,20,18,21,22] [18,22] Ext (jae (fun z=>W.heap.size<=z)) ExtR ExtT (fun x y z h k=>jae.trans h k) (fun x y h=>h.mono (fun _ _ h=>h.elim)) vY vY vY ?_;iterate 2 refine vD ?_
 refine qDV _ ((.pointer (some ⟨b,0,none⟩))) rfl (fun w1 _=>by kernel_rfl) ?_;refine vS ?_
 refine vD ?_
 refine qDL ⟨b,0,none⟩ _ rfl (fun w1 h1=>jaE (fun w=>by kernel_rfl) (jan (jaa Q0.o J.o) (((jae.refl (fun z=>W.heap.size<=z) W2).drew).trans h1) (by exact b2.o))) ?_;refine vS ?_;iterate 3 refine vD ?_
 refine qDV _ ((.pointer (some ⟨b,0,none⟩))) rfl (fun w1 _=>by kernel_rfl) ?_;refine vS ?_
 refine vD ?_
 refine qDL ⟨b,0,none⟩ _ rfl (fun w1 h1=>jaE (fun w=>by kernel_rfl) (jan (jaa Q0.o J.o) (((jae.refl (fun z=>W.heap.size<=z) W2).drew).trans h1) (by exact b2.o))) ?_;refine vS ?_;iterate 4 refine vD ?_
 refine qDV _ ((.pointer (some ⟨b,0,none⟩))) rfl (fun w1 _=>by kernel_rfl) ?_;refine vS ?_
 refine vD ?_
 refine qDL ⟨b,1,none⟩ _ rfl (fun w1 h1=>jaE (fun w=>by kernel_rfl) (jan (jaa Q1.o J.o) (((jae.refl (fun z=>W.heap.size<=z) W2).drew).trans h1) (by exact b2.o))) ?_;refine vS ?_;refine qDV _ ((.pointer (some ⟨E,0,none⟩))) rfl (fun w1 _=>by kernel_rfl) ?_;refine vS ?_
 refine vD ?_
 refine qDH _ rfl (fun wb hb K hK=>?_);have kb:Ext W2 wb:=(jai _).trans hb;have kw:Ext W wb:=J.o.trans kb;refine jbG (jat (vX 228) vY) ((pj_c wb Dn (q.extract (m+1) q.size) n (.iface T x) ⟨HV.o.keeps kw _ _ _ (fun _ _ e=>e),fun z A=>bJ (HD.o z A).2 kw.size⟩ a5.o.1 (by have:=a5.o.2.1;omega) (jcd _ _ _ a5.o.2.2 vO)).mono ?_);rintro e w3 ⟨v3,rfl,Z,O⟩
 refine⟨v3,rfl,hK _ _ (O.mono (fun _ _ e=>e.elim)) ?_⟩
 have HS:=Hd (bB kb (bB Z O));clear hK K hb kb Z O kw;refine vS ?_
 refine vD ?_
 refine qDH _ rfl (fun wc hc K hK=>?_)
 obtain⟨kb,Z,O⟩:=HS.o
 have b5:=Z.keeps hc _ _ _ (fun _ _ e=>e);have kc:Ext W2 wc:=(kb.trans O).trans hc
 obtain⟨T3,x3,rfl⟩:=b5.form (jdA a5.o.1)
 have a0:∀ z,Grow Dn wb w3 z->¬ z=E/\z < wc.heap.size:=fun z A=>by
  have h1:=a8.o.lt E rfl;have h2:=a9.o;have h3:=kb.size;have h4:=O.size;have h5:=hc.size;have h6:=J.o.size;rcases A with A | A
  ·have:=(HD.o z A).2;omega
  ·have:=A.1;have:=A.2;omega
 have hg:=(a8.o.keeps kc (fun _ _ e=>e)).give b4.o.1 b5 a0
 obtain⟨old,q7⟩:∃ v,wc.cell? ⟨E,1+jau (q.extract m q.size),none⟩=some v:=⟨_,(a8.o.keeps kc (fun _ _ e=>e)).blk.cellL (bA (by rw[jgR];have:=b4.o.1;omega))⟩
 have f7:wc.frozen? ⟨E,1+jau (q.extract m q.size),none⟩=false:=(a8.o.keeps kc (fun _ _ e=>e)).blk.frozen
 obtain⟨WW,a1⟩:=vE (wc.setCell ⟨E,1+jau (q.extract m q.size),none⟩ (.iface T3 x3))
 rw[<-a1]at hg;have Q:jae (fun z=>z=E) wc WW:=by rw[a1];exact jae.oneSet wc ⟨E,1+jau (q.extract m q.size),none⟩ (.iface T3 x3)
 have HG:=Hd (bB hg (bB Q (bB kc (bB a0 (show ∀ z,Grow Dn wb w3 z->D z\/W.heap.size<=z from fun z A=>A.elim (fun e=>.inl (HD.o z e).1) (fun e=>.inr (bG (bG J.o.size kb.size) e.1)))))));rw[b4.o.2]at q7 f7 a1;clear kb Z O b5 kc a0 hg hc;go_simp;rw[<-a1];refine hK _ _ (Q.mono (fun z _ e=>by have e:z=E:=e;rw[e];exact a9.o)) ?_;clear hK K q7 f7 a1 Q;refine qDE (fun wd hd=>?_)
 obtain⟨hg,Q,kc,a0,d0⟩:=HG.o
 have d1:=hg.keeps hd (fun _ _ e=>e);have HX:=Hd (bB d1 (show Ext W wd from((J.o.trans kc).trans' Q (fun z A e=>by have e:z=E:=e;have:=a9.o;omega)).trans hd));have HY:Hid (∀ z,(z=E\/Grow Dn wb w3 z)->D z\/W.heap.size<=z):=(fun z A=>A.elim (fun e=>.inr (by rw[e];exact a9.o)) (d0 z));clear hg Q kc a0 d0 d1 hd;go_wp2_with fail
 refine (jkb wd _ ⟨#[]⟩ _ E HX.o.1.pa (p.extract m p.size) u c0.o.1 c0.o.2 d5.o).mono ?_;rintro e w4 ⟨rfl,d2,b6⟩;have d3:=AddP.br d2 b6 HX.o.1.lt;have a4:jae D W w4:=(HX.o.2.mono (fun _ _ e=>e.elim)).trans' b6 (fun z A e=>by
  rcases HY.o z e with h | h
  ·exact h
  ·omega)
 have b0:=Hd (bB d3 a4);clear d2 b6 d3 a4;unfold brV;go_wp2_with fail
 refine (pj_c w4 _ (p.extract 0 m) _ (brV E) b0.o.1 c6.o.2 (by have:=d6.o;omega) (jcd _ _ _ c6.o.1 vO)).mono ?_;rintro e w5 ⟨v5,rfl,b1,a2⟩;have HZ:=Hd (bB b1 a2);clear b1 a2;go_wp2_with fail
 go_ret
 obtain⟨b1,a2⟩:=HZ.o
 refine PaTo.mk1 (b1.mono (fun z A=>?_)) (b0.o.2.trans (a2.mono (fun _ _ e=>e.elim)));have b7:=jeH b0.o.1.lt a2 z A;rcases A with (A | A) | A
 ·rcases HY.o z A with h | h
  ·exact .inl h
  ·exact .inr ⟨h,b7⟩
 ·exact .inr ⟨bG HX.o.2.size A.1,b7⟩
 ·exact .inr ⟨bG b0.o.2.size A.1,b7⟩
end
def VaP:PA->Prop
 | .nil=>True
 | .no=>True
 | .leaf q _=>jaz q=true
 | .ext q n=>jaz q=true/\VaP n
 | .br _ ks=>∀ i,VaP (ks i)
theorem jrj:∀ (P:PA),CanP P->VaP P
 | .nil,h=>h.elim
 | .no,h=>h.elim
 | .leaf q v,h=>h.1
 | .ext q n,h=>⟨h.2.1,jrj n h.2.2.2⟩
 | .br v ks,h=>fun i=>by
  cases hn:(ks i).isNil with
  | true=>rw[jbv hn];trivial
  | false=>exact jrj (ks i) (h.2.1 i hn)
theorem jny:∀ (P:PA),VaP P->PutC P
 | .nil,_=>fun W T x D p u h _ _ _=>by cases h.at'
 | .no,_=>fun W T x D p u h _ _ _=>by
  have e:Value.iface T x=noV:=h.at';unfold noV at e;injection e with e1 e2;subst e1 e2;exact jsC W D p u
 | .leaf q v,hv=>fun W T x D p u h A E m=>by
  obtain⟨b,e,h1,H⟩:=h.at'
  unfold jjj at e;injection e with e1 e2;subst e1 e2
  by_cases hpq:p=q
  ·subst hpq
   show Calls _ _ _ W (PaTo D W (putP (.leaf p v) p u));unfold putP;rw[if_pos rfl];exact jsa W D p v u b H
  ·exact jp7 W D q v p u b H hpq hv E m A
 | .ext q n,hv=>fun W T x D p u h A E m=>by
  obtain⟨b,X,Z,K,e,h1,H,O,h4,h5⟩:=h.at'
  unfold extV at e;injection e with e1 e2;subst e1 e2;have o:n.isNil=false:=by
   cases n with
   | nil=>cases O
   | _=>rfl
  have J:∀ z,K z->D z/\z < W.heap.size:=fun z hz=>⟨h5 z hz,h.lt z (h5 z hz)⟩
  by_cases hf:jal q p=q.size
  ·have:=jw0 W D q n X Z K b H O h4 J p u hv.1 E m.1 A (jcd _ _ _ m.2 vO) (jny n hv.2) o hf
   show Calls _ _ _ W (PaTo D W (putP (.ext q n) p u));unfold putP;rw[if_pos hf,hf];exact this
  ·have:=jut W D q n X Z K b H O h4 J p u hv.1 E m.1 A m.2 o hf
   show Calls _ _ _ W (PaTo D W (putP (.ext q n) p u));unfold putP;rw[if_neg hf];exact this
 | .br v ks,hv=>fun W T x D p u h A E m=>by
  obtain⟨b,vk,Dk,e,_⟩:=h.at'
  have e0:=e;unfold brV at e;injection e with e1 e2;subst e1 e2;show Calls _ _ _ W (PaTo D W (putP (.br v ks) p u));unfold putP
  by_cases h0:p.size=0
  ·rw[if_pos h0,jbj h0]
   exact (jn4 W D v u ks b h).mono fun e w' h=>h.2
  ·rw[if_neg h0]
   cases hk:(ks (jau p)).isNil with
   | true =>
    rw[jbv hk];exact (jn3 W D v u ks b h p h0 E A hk).mono fun e w' h=>h.2
   | false =>
    have Q:=m (jau p) hk;exact (jt8 W D v u ks b h p h0 E A hk (jcd _ _ _ Q.2 vO) (jny (ks (jau p)) (hv _))).mono fun e w' h=>h.2
end Go.Proofs.YtegloohdmjadoaaGreatDoor
