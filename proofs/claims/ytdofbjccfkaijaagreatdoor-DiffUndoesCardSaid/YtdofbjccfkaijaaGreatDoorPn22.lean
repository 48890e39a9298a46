/- Lemmas; each is under no condition but those that it states. -/
import Derived.Test.YtdofbjccfkaijaaGreatDoorPn21
namespace Go.Proofs.YtdofbjccfkaijaaGreatDoor
set_option linter.unusedSimpArgs false
set_option linter.unusedVariables false
set_option maxRecDepth 100000
set_option maxHeartbeats 16000000
open Go Go.RowKit
def jcq(P:PA)(d:Chg):PA:=if d.gone then jbU P (jbu d.key)else putP P (jbu d.key) d.value
def jmc(q:vN)(o:Option vB)(c:Chg):Option vB:=if q=(jbu c.key).data.toList then c.o else o
theorem jt7{P:PA}(hP:P=.no\/CanP P){c:Chg}(hc:c.bad=false):(jcq P c=.no\/CanP (jcq P c))/\∀ q,getL (jcq P c) q=jmc q (getL P q) c:=by
 have z:=jex c.key;unfold jcq jmc Chg.o;cases hg:c.gone with
 | true =>
  rw[if_pos rfl,if_pos rfl];rcases hP with rfl | hP
  ·refine⟨.inl rfl,fun q=>?_⟩
   show none=if q=_ then none else none
   split <;> rfl
  ·exact jnE P hP _ z
 | false =>
  rw[if_neg ff,if_neg ff];have A:c.value.size≠0:=by
   unfold Chg.bad at hc;rw[hg]at hc;simp only[Bool.false_and,iS,iP,Bool.true_and,gT,Bool.not_eq_false']at hc;have E:=hc.2;unfold jbS at E
   have:=of_decide_eq_true E;omega
  have e:CanP P\/P=.no\/P=.nil:=by
   rcases hP with h | h
   ·exact .inr (.inl h)
   ·exact .inl h
  exact⟨.inr (jnw P e _ _ z A),jnL P e _ _ A⟩
theorem jsj:∀ (cs:List Chg) (P:PA),(P=.no\/CanP P)->cs.any Chg.bad=false->(cs.foldl jcq P=.no\/CanP (cs.foldl jcq P))/\∀ q,getL (cs.foldl jcq P) q=cs.foldl (jmc q) (getL P q)
 | [],P,hP,_=>⟨hP,fun _=>rfl⟩
 | c :: cs,P,hP,hb=>by
  rw[List.any_cons,gT]at hb
  obtain⟨e,o⟩:=jt7 hP hb.1
  obtain⟨z,A⟩:=jsj cs _ e hb.2
  refine⟨z,fun q=>?_⟩
  rw[dE,A,o,dE]
theorem jtt{a b:vB}(h:jbu a=jbu b):a=b:=by rw[<-jfJ a,h,jfJ]
theorem jqE(k:vB):jmc (jbu k).data.toList=jfg k.data.toList:=by
 funext o c
 unfold jmc jfg Chg.o
 by_cases e:k.data.toList=c.key.data.toList
 ·rw[if_pos e,if_pos (by rw[jbC e])]
 ·rw[if_neg e,if_neg (fun h=>e (by rw[jtt (jbC h)]))]
theorem jjU{q:vN}(h:∀ k,q≠(jbu k).data.toList)(o:Option vB):∀ cs:List Chg,cs.foldl (jmc q) o=o
 | []=>rfl
 | c :: cs=>by
  have e:jmc q o c=o:=by unfold jmc;rw[if_neg (h c.key)]
  rw[dE,e,jjU h o cs]
theorem jlj(k:vB):∀ l:vL,valL l k=look l k.data.toList
 | []=>rfl
 | q :: r=>by
  rw[jaO];show (if q.1=k then some q.2 else valL r k)=_
  by_cases e:q.1=k
  ·rw[if_pos e,if_pos (by rw[<-e])]
  ·rw[if_neg e,if_neg (fun h=>e (jbC h.symm)),jlj k r]
theorem jpv{l:vL}(h:jas 12 l):ja4 13 l=.no\/CanP (ja4 13 l):=by
 by_cases h0:l.length=0
 ·exact .inl (jbW _ h0)
 ·exact .inr (jpu 12 l h (fun e=>h0 (by rw[e];rfl))).1
theorem jvl{l m:vL}(hl:jaw l=0)(hm:jaw m=0){cs:List Chg}(h:jls l m cs):cs.foldl jcq (ja4 13 (jaR l))=ja4 13 (jaR m):=by
 have o:=jbw (jaA hl);have A:=jbw (jaA hm)
 obtain⟨E,H⟩:=jsj cs _ (jpv o) h.fine
 refine jtr A E fun p J=>?_;rw[H,jkY 12 _ o p J]
 by_cases hk:∃ k,p=jbu k
 ·obtain⟨k,rfl⟩:=hk
  rw[jqE,jpY,jpY,jlj,jlj];exact h.looks k.data.toList
 ·have K:∀ k,p.data.toList≠(jbu k).data.toList:=fun k e=>hk ⟨k,jbC e⟩
  have z:∀ r:vL,valL (jaR r) p=none:=fun r=>jgZ fun q O e=>by
   obtain⟨x,_,rfl⟩:=bJ.1 O
   exact hk ⟨x.1,e.symm⟩
  rw[jjU K,z,z]
def Dp:PA->Nat->Prop
 | .nil,_=>True
 | .no,_=>True
 | .leaf q _,n=>q.size<=n
 | .ext q m,n=>q.size<=n/\Dp m (n - q.size)
 | .br _ ks,n=>∀ i,(ks i).isNil=false->1<=n/\Dp (ks i) (n - 1)
theorem jcg:∀ (P:PA) (n m:Nat),Dp P n->n<=m->Dp P m
 | .nil,_,_,_,_=>trivial
 | .no,_,_,_,_=>trivial
 | .leaf q _,n,m,h,k=>bK (show q.size<=n from h) k
 | .ext q x,n,m,h,k=>⟨bK h.1 k,jcg x _ _ h.2 vO⟩
 | .br _ ks,n,m,h,k=>fun i e=>⟨bK (h i e).1 k,jcg (ks i) _ _ (h i e).2 vO⟩
theorem jf8{a:vB}{P:PA}{n:Nat}(h:Dp P (n - a.size))(ha:a.size<=n):Dp (jci a P) n:=by
 unfold jci
 by_cases h0:a.size=0
 ·rw[if_pos h0];exact jcg P _ _ h vO
 rw[if_neg h0];cases P with
 | nil=>trivial
 | no=>trivial
 | leaf q v =>
  have h:q.size<=n - a.size:=h;show (a++q).size<=n;rw[jc5];omega
 | ext q m =>
  have e:=h.1
  refine⟨by rw[jc5];omega,?_⟩
  rw[jc5];exact jcg m _ _ h.2 vO
 | br v ks=>exact⟨ha,h⟩
theorem jiw{v:vB}{ks:Nat->PA}{n:Nat}(h:Dp (.br v ks) n){i:Nat}{P:PA}(h1:1<=n)(hP:Dp P (n - 1))(u:vB):Dp (.br u (setK ks i P)) n:=by
 intro j o
 by_cases e:j=i
 ·rw[e,jco];exact⟨h1,hP⟩
 ·rw[jeX _ _ e]at o ⊢;exact h j o
theorem jiu{v:vB}{ks:Nat->PA}{n:Nat}(h:Dp (.br v ks) n){p:vB}(hp:p.size<=n)(u:vB):Dp (addK (.br v ks) p u) n:=by
 rw[jcS]
 by_cases h0:p.size=0
 ·rw[if_pos h0];exact h
 ·rw[if_neg h0]
  refine jiw h vO ?_ v;show (jbB p).size<=n - 1;unfold jbB;rw[ja3];omega
theorem jhW(v:vB)(n:Nat):Dp (.br v fun _=>.nil) n:=fun i e=>by cases e
theorem je8(a b:vB):jal a b<=a.size/\jal a b<=b.size:=by
 have:=jbg a.data.toList b.data.toList
 unfold jal;rw[<-jaT, <-jaT];exact this.2
theorem joK:∀ (P:PA) (n:Nat) (p u:vB),Dp P n->p.size<=n->Dp (putP P p u) n
 | .nil,_,p,u,_,hp=>hp
 | .no,_,p,u,_,hp=>hp
 | .leaf q v,n,p,u,h,hp=>by
  have h:q.size<=n:=h
  obtain⟨A,E⟩:=je8 q p
  unfold putP
  by_cases e:p=q
  ·rw[if_pos e];exact hp
  rw[if_neg e];have z:(p.extract 0 (jal q p)).size=jal q p:=by rw[cL];omega
  refine jf8 ?_ vO;rw[z];have o:=jiu (jhW ⟨#[]⟩ (n - jal q p)) (p:=q.extract (jal q p) q.size) (by rw[ja3];omega) v;rw[jcS]at o ⊢
  by_cases h0:(q.extract (jal q p) q.size).size=0
  ·rw[if_pos h0]at o ⊢
   exact jiu o (by rw[ja3];omega) u
  ·rw[if_neg h0]at o ⊢
   exact jiu o (by rw[ja3];omega) u
 | .ext q x,n,p,u,h,hp=>by
  obtain⟨A,E⟩:=je8 q p
  unfold putP
  by_cases e:jal q p=q.size
  ·rw[if_pos e]
   refine jf8 (joK x _ _ u h.2 ?_) h.1;rw[ja3];omega
  ·rw[if_neg e]
   have z:(p.extract 0 (jal q p)).size=jal q p:=by rw[cL];omega
   refine jf8 ?_ vO;rw[z];have H:=h.1;refine jiu (jiw (jhW ⟨#[]⟩ _) vO (jf8 ?_ ?_) _) (by rw[ja3];omega) u
   ·rw[ja3]
    exact jcg x _ _ h.2 vO
   ·rw[ja3];omega
 | .br v ks,n,p,u,h,hp=>by
  unfold putP
  by_cases h0:p.size=0
  ·rw[if_pos h0];exact h
  ·rw[if_neg h0]
   refine jiw h vO (joK (ks (jat p)) (n - 1) _ u ?_ ?_) v
   ·cases hn:(ks (jat p)).isNil with
    | true=>rw[jbE hn];trivial
    | false=>exact (h _ hn).2
   ·unfold jbB;rw[ja3];omega
theorem joJ{v:vB}{ks:Nat->PA}{n:Nat}(h:Dp (.br v ks) n):Dp (jdu v ks) n:=by
 have o:∀ i∈idxK ks,(ks i).isNil=false:=fun i z=>by
  have:=(cM.1 z).2
  simpa using this
 unfold jdu;cases e:idxK ks with
 | nil =>
  show Dp (if v.size=0 then PA.no else .leaf ⟨#[]⟩ v) n
  by_cases h0:v.size=0
  ·rw[if_pos h0];trivial
  ·rw[if_neg h0];exact cE n
 | cons i r =>
  cases r with
  | nil =>
   show Dp (if v.size=0 then jci ⟨#[UInt8.ofNat i]⟩ (ks i)else .br v ks) n
   by_cases h0:v.size=0
   ·rw[if_pos h0]
    obtain⟨A,E⟩:=h i (o i (by rw[e];exact bH))
    exact jf8 E A
   ·rw[if_neg h0];exact h
  | cons j r=>exact h
theorem jiv:∀ (P:PA) (n:Nat) (p:vB),Dp P n->Dp (jbU P p) n
 | .nil,_,_,_=>trivial
 | .no,_,_,_=>trivial
 | .leaf q v,n,p,h=>by
  unfold jbU
  by_cases e:p=q
  ·rw[if_pos e];trivial
  ·rw[if_neg e];exact h
 | .ext q x,n,p,h=>by
  unfold jbU;cases preB q p with
  | false=>rw[if_neg ff];exact h
  | true=>rw[if_pos rfl];exact jf8 (jiv x _ _ h.2) h.1
 | .br v ks,n,p,h=>by
  unfold jbU
  by_cases h0:p.size=0
  ·rw[if_pos h0];exact joJ h
  ·rw[if_neg h0]
   cases hn:(ks (jat p)).isNil with
   | true=>rw[if_pos rfl];exact h
   | false =>
    rw[if_neg ff]
    obtain⟨o,z⟩:=h _ hn
    refine joJ (jiw h o ?_ v)
    have:=jiv (ks (jat p)) (n - 1) (jbB p) z
    unfold unNo;cases (jbU (ks (jat p)) (jbB p)).isNo with
    | true=>rw[if_pos rfl];trivial
    | false=>rw[if_neg ff];exact this
theorem jto:∀ (f:Nat) (l:vL) (k:Nat),jas f l->jas k l->Dp (ja4 (f+1) l) k:=by
 intro f;have A:∀ (f:Nat) (l:vL) (k:Nat),jas k l->l.length=1->Dp (ja4 (f+1) l) k:=by
  intro f l k h H;rw[jb0 _ H];exact (h.size _ (jdz (l:=l) vO)).1
 induction f with
 | zero =>
  intro l k h J;have hl:=jbI h
  by_cases h0:l.length=0
  ·rw[jbW _ h0];trivial
  ·exact A 0 l k J vO
 | succ f ih =>
  intro l k h z
  by_cases h0:l.length=0
  ·rw[jbW _ h0];trivial
  by_cases H:l.length=1
  ·exact A _ l k z H
  have E:2<=l.length:=vO
  by_cases J:0 < comK l
  ·have Q:=jdz (l:=l) vO
   have X:=jdg h E;have o:=jbl h E;have Z:=(o _ Q).2;have a0:=(z.size _ Q).1;rw[jdB _ E J]
   refine⟨by rw[X];omega,?_⟩
   rw[X];exact ih _ _ (jef h E J).1 (jb9 (comK l) z (fun p K q hq=>(o p K).1.trans (o q hq).1.symm) (fun p K=>(o p K).2))
  ·rw[jeT _ E J]
   intro i O;have O:(if (cutL i l).length=0 then PA.nil else ja4 (f+1) (jak 1 (cutL i l))).isNil=false:=O;show 1<=k/\Dp (if (cutL i l).length=0 then PA.nil else ja4 (f+1) (jak 1 (cutL i l))) (k - 1)
   by_cases hc:(cutL i l).length=0
   ·rw[if_pos hc]at O;cases O
   ·rw[if_neg hc]
    refine⟨?_,ih _ _ (je3 h hc).1 (jdq i z)⟩
    cases e:cutL i l with
    | nil=>rw[e]at hc;exact (hc rfl).elim
    | cons p r =>
     obtain⟨K,a,t,H,E⟩:=jbz (show p∈cutL i l by rw[e];exact bH)
     have:=(z.size p K).1
     have h3:p.1.size=(a :: t).length:=by rw[<-jaT];exact congrArg List.length H
     rw[bF]at h3;omega
section
attribute [local go_sem] Oper.semAt_some
def noV:vV:=.iface 240 (.agg #[])
def jjo(b:Nat):vV:=.iface 229 (.pointer (some ⟨b,0,none⟩))
def extV(b:Nat):vV:=.iface 232 (.pointer (some ⟨b,0,none⟩))
def brV(b:Nat):vV:=.iface 235 (.pointer (some ⟨b,0,none⟩))
def brC(u:vB)(vk:Nat->vV):List vV:=.string u ::(List.range 16).map vk
def PaAt:PA->vV->(Nat->Prop)->vW->Prop
 | .nil,v,_,_=>v=.nilIface
 | .no,v,_,_=>v=noV
 | .leaf q u,v,D,W=>∃ b,v=jjo b/\D b/\Blk W b (.cells #[.string q,.string u] 231)
 | .ext q n,v,D,W=>∃ b T x Dn,v=extV b/\D b/\Blk W b (.cells #[.string q,.iface T x] 234)/\PaAt n (.iface T x) Dn W/\¬ Dn b/\∀ x,Dn x->D x
 | .br u ks,v,D,W=>∃ (b:Nat) (vk:Nat->vV) (Dk:Nat->Nat->Prop),v=brV b/\D b/\Blk W b (.cells (brC u vk).toArray 238) /\
   (∀ i,i < 16->PaAt (ks i) (vk i) (Dk i) W/\¬ Dk i b/\∀ x,Dk i x->D x)/\∀ i j,i < 16->j < 16->i≠j->∀ x,Dk i x->¬ Dk j x
theorem PaAt.keeps{F:BSet}{W W':vW}(k:jaf F W W'):∀ (P:PA) (v:vV) (D:Nat->Prop),PaAt P v D W->(∀ x,D x->¬ F x)->PaAt P v D W'
 | .nil,_,_,h,_=>h
 | .no,_,_,h,_=>h
 | .leaf _ _,_,_,⟨b,h1,h2,h3⟩,hF=>⟨b,h1,h2,h3.keeps k (hF b h2)⟩
 | .ext _ n,_,_,⟨b,T,x,Dn,h1,h2,h3,h4,h5,h6⟩,hF=>⟨b,T,x,Dn,h1,h2,h3.keeps k (hF b h2),PaAt.keeps k n (.iface T x) Dn h4 (fun x e=>hF x (h6 x e)),h5,h6⟩
 | .br _ ks,_,_,⟨b,vk,Dk,h1,h2,h3,h4,h5⟩,hF=>⟨b,vk,Dk,h1,h2,h3.keeps k (hF b h2),fun i o=>⟨PaAt.keeps k (ks i) (vk i) (Dk i) (h4 i o).1 (fun x e=>hF x ((h4 i o).2.2 x e)),(h4 i o).2⟩,h5⟩
theorem PaAt.mono{D D':Nat->Prop}{W:vW}(hD:∀ x,D x->D' x):∀ {P:PA} {v:vV},PaAt P v D W->PaAt P v D' W
 | .nil,_,h=>h
 | .no,_,h=>h
 | .leaf _ _,_,⟨b,h1,h2,h3⟩=>⟨b,h1,hD b h2,h3⟩
 | .ext _ n,_,⟨b,T,x,Dn,h1,h2,h3,h4,h5,h6⟩=>⟨b,T,x,Dn,h1,hD b h2,h3,h4,h5,fun x e=>hD x (h6 x e)⟩
 | .br _ ks,_,⟨b,vk,Dk,h1,h2,h3,h4,h5⟩=>⟨b,vk,Dk,h1,hD b h2,h3,fun i o=>⟨(h4 i o).1,(h4 i o).2.1,fun x e=>hD x ((h4 i o).2.2 x e)⟩,h5⟩
theorem PaAt.form{P:PA}{v:vV}{D:Nat->Prop}{W:vW}(h:PaAt P v D W)(hn:P.isNil=false):∃ T x,v=.iface T x:=by
 cases P with
 | nil=>cases hn
 | no=>exact⟨_,_,h⟩
 | leaf q u=>obtain⟨b,h,_⟩:=h;exact⟨_,_,h⟩
 | ext q n=>obtain⟨b,T,x,e,h,_⟩:=h;exact⟨_,_,h⟩
 | br u ks=>obtain⟨b,o,z,h,_⟩:=h;exact⟨_,_,h⟩
structure PaO(P:PA)(v:Value)(D:Nat->Prop)(W:World):Prop where
 at':PaAt P v D W
 lt:∀ x,D x->x < W.heap.size
theorem PaO.keeps{F:BSet}{W W':vW}{P:PA}{v:vV}{D:Nat->Prop}(h:PaO P v D W)(k:jaf F W W')(hF:∀ x,D x->¬ F x):PaO P v D W':=
 ⟨h.at'.keeps k P v D hF,fun x e=>bQ (h.lt x e) k.size⟩
theorem PaO.ext{W W':vW}{P:PA}{v:vV}{D:Nat->Prop}(h:PaO P v D W)(k:Ext W W'):PaO P v D W':=h.keeps k fun _ _ e=>e
def Grow(D:Nat->Prop)(W W':vW):Nat->Prop:=fun x=>D x\/(W.heap.size<=x/\x < W'.heap.size)
theorem jeN{D:Nat->Prop}{W W':vW}{F:BSet}(h:∀ x,D x->x < W.heap.size)(k:jaf F W W'):∀ x,Grow D W W' x->x < W'.heap.size
 | x,.inl hx=>bQ (h x hx) k.size
 | x,.inr hx=>hx.2
def PaTo(D:Nat->Prop)(W:vW)(P:PA)(e:Ending)(w':vW):Prop:=∃ v,e=.returned v/\PaAt P v (Grow D W w') w'/\jaf D W w'
theorem PaTo.own{D:Nat->Prop}{W:vW}{P:PA}{v:vV}{w':vW}(h:PaAt P v (Grow D W w') w')(k:jaf D W w')(hl:∀ x,D x->x < W.heap.size):PaO P v (Grow D W w') w':=⟨h,jeN hl k⟩
def PaEx(D:Nat->Prop)(W:vW)(P:PA)(e:Ending)(w':vW):Prop:=∃ v,e=.returned v/\PaAt P v (Grow D W w') w'/\Ext W w'
theorem jxX(b:Nat)(w:vW):(Instr.typeAssert (jjo b) 121 229 true).run Tryz.prog w=.ok (.tuple #[.pointer (some ⟨b,0,none⟩),.bool true]) w:=vY
theorem jnQ(v:vV)(h:(∃ b,v=extV b)\/(∃ b,v=brV b)\/v=noV)(w:vW):(Instr.typeAssert v 121 229 true).run Tryz.prog w=.ok (.tuple #[.pointer none,.bool false]) w:=by
 rcases h with⟨b,rfl⟩ |⟨b,rfl⟩ | rfl <;> kernel_rfl
theorem jz2(b:Nat)(w:vW):(Instr.typeAssert (extV b) 121 232 true).run Tryz.prog w=.ok (.tuple #[.pointer (some ⟨b,0,none⟩),.bool true]) w:=vY
theorem jwO(v:vV)(h:(∃ b,v=brV b)\/v=noV)(w:vW):(Instr.typeAssert v 121 232 true).run Tryz.prog w=.ok (.tuple #[.pointer none,.bool false]) w:=by
 rcases h with⟨b,rfl⟩ | rfl <;> kernel_rfl
theorem jBo(b:Nat)(w:vW):(Instr.typeAssert (brV b) 121 235 true).run Tryz.prog w=.ok (.tuple #[.pointer (some ⟨b,0,none⟩),.bool true]) w:=vY
theorem jBp(w:vW):(Instr.typeAssert noV 121 235 true).run Tryz.prog w=.ok (.tuple #[.pointer none,.bool false]) w:=vY
end
section
section mixz
variable {P:Program} {l:List Oper} {E D:vW->vW->Prop}
def anyZ(P:Program)(ops:Array Oper)(z:Nat)(hd:List Nat)(E D:vW->vW->Prop)(Q:Act->vW->Prop):Nat->Array Bool->Act->vW->Prop
 | 0,listed,a,w=>listed.getD z true=true/\Region.ready .any ops listed=[]/\Q a w
 | fuel+1,listed,a,w=>∀ w1,(listed.getD z true=false->E w w1)->(listed.getD z true=true->w1=w) ->
  (Region.ready .any ops listed=[]->Q a w1) /\
  ∀ i∈Region.ready .any ops listed,wpOp P ops NoQ i (fun a' w'=>(listed.getD z true=false->i≠z->D w1 w'/\(i ∉ hd->E w1 w'))/\(listed.getD z true=true->w'=w1)/\anyZ P ops z hd E D Q fuel (listed.setIfInBounds i true) a' w') a w1
theorem jry(hT:∀ x y z,E x y->E y z->E x z){ops:Array Oper}{z:Nat}{hd:List Nat}{Q:Act->vW->Prop}:∀ (fuel:Nat) (listed:Array Bool) (a:Act) (w w1:vW),listed.getD z true=false->anyZ P ops z hd E D Q fuel listed a w->E w w1->anyZ P ops z hd E D Q fuel listed a w1
 | 0,_,_,_,_,hz,h,_=>by have:=h.1;rw[hz]at this;cases this
 | _+1,_,_,_,_,hz,h,he=>fun o A H=>h o (fun e=>hT _ _ _ he (A e)) (fun e=>absurd e (by rw[hz];decide))
theorem jjv(hE:∀ w,E w w){ops:Array Oper}{z:Nat}{hd:List Nat}{Q:Act->vW->Prop}{Q':Exit->Act->vW->Prop}(hQ:∀ a w,Q a w->Q' .normal a w) :
  ∀ (fuel:Nat) (listed:Array Bool) (a:Act) (w:vW),anyZ P ops z hd E D Q fuel listed a w->wpAny P .any ops Q' fuel listed a w
 | 0,_,_,w,h=>⟨h.2.1,hQ _ _ h.2.2⟩
 | fuel+1,_,_,w,h=>let ⟨h1,h2⟩:=h w (fun _=>hE w) (fun _=>rfl)
  ⟨fun e=>hQ _ _ (h1 e),fun i o=>jic (fun A w' ⟨_,_,H⟩=>jjv hE hQ fuel _ A w' H) (h2 i o)⟩
def jqt(ops:Array Oper)(z i:Nat):Bool:=match ops[z]? with | some o=>o.after.toList.any fun e=>Region.binds .any e && e.on == i | none=>false
theorem jvb{ops:Array Oper}{z i:Nat}{listed:Array Bool}(he:jqt ops z i=true)(hi:i∈Region.ready .any ops listed):z ∉ Region.ready .any ops listed:=by
 intro O;unfold jqt at he
 obtain⟨Q,X,E,o⟩:=mem_ready.1 O
 rw[E]at he
 obtain⟨e,H,J⟩:=fO.1 he
 rw[cU,beq_iff_eq]at J;have A:=o e (by simpa using H) J.1;have K:=(mem_ready.1 hi).1;rw[J.2]at A;rcases fQ i listed.size with h' | h'
 ·simp[h']at K A;rw[K]at A;cases A
 ·simp[gN h']at A
theorem jqd(hE:∀ w,E w w)(hT:∀ x y z,E x y->E y z->E x z)(hD:∀ x y z,D x y->D y z->D x z)(hED:∀ x y,E x y->D x y){ops:Array Oper}{z:Nat}{hd:List Nat}{Q:Act->vW->Prop}{i:Nat}{oi:Oper}{v:vV}(hiz:i≠z)(he0:jqt ops z i=true)(hi:ops[i]?=some oi)(hsel:∀ (j:Nat) (o:Oper) cs b,ops[j]?=some o->o.op≠.select cs b) :
  ∀ (J:Nat) (A:Array Bool) (a:Act) (w:vW),A.getD z true=false ->
   (∀ j oj,ops[j]?=some oj->j≠i->A.getD j true=false->(∀ e∈oj.after,Region.binds .any e=true->e.on≠i)->oi.apart ops oj=true) ->
   i∈Region.ready .any ops A->jcB P ops E D w oi v a ->
   anyZ P ops z hd E D Q J (A.setIfInBounds i true) (a.put oi.dst v) w->anyZ P ops z hd E D Q (J+1) A a w:=by
 intro J;induction J with
 | zero =>
  intro A a w hz _ hr hy H
  have:=H.1
  rw[getD_set_ne true hiz,hz]at this;cases this
 | succ J ih =>
  intro A a w hz K hr hy H w1 a8 _;have he:=a8 hz;have a0:(A.setIfInBounds i true).getD z true=false:=by rw[getD_set_ne true hiz,hz]
  refine⟨fun h=>(by rw[h]at hr;cases hr),fun j hj=>?_⟩
  by_cases hji:j=i
  ·subst hji
   exact hy.wpOp hi (hED _ _ he) hE (fun w' O=>⟨fun _ _=>⟨hED _ _ O,fun _=>O⟩,fun e=>absurd e (by rw[hz];decide),jry hT _ _ _ _ _ a0 H (hT _ _ _ he O)⟩)
  ·have a6:j≠z:=fun e=>jvb he0 hr (e ▸ hj)
   have O:=(H w1 (fun _=>he) (fun e=>by rw[a0]at e;cases e)).2 j (ready_mono hj hji)
   obtain⟨Z,oj,a3,a4⟩:=mem_ready.1 hj
   have a5:∀ e∈oj.after,Region.binds .any e=true->e.on≠i:=fun e he hb a9=>by
    have O:=a4 e he hb;have h0:=(mem_ready.1 hr).1;rw[a9]at O;rcases fQ i A.size with h' | h'
    ·simp[h']at h0 O;rw[h0]at O;cases O
    ·simp[gN h']at O
   have h2:=jfu (v:=v) (Y:=fun a'=>execOp a'.eval oi=execOp a.eval oi/\Region.wanted oi (yielded ops a'.tmps)=Region.wanted oi (yielded ops a.tmps)) a3 (K j oj a3 hji Z a5) (fun cs b=>hsel i oi cs b hi) (fun cs b=>hsel j oj cs b a3)
    (fun a1 a2 h e1 e2=>⟨e1.trans h.1,e2.trans h.2⟩) ⟨rfl,rfl⟩ O
   have X:∀ k ok,ops[k]?=some ok->k≠i->(A.setIfInBounds j true).getD k true=false ->
     (∀ e∈ok.after,Region.binds .any e=true->e.on≠i)->oi.apart ops ok=true:=fun k ok hk b0 a7 b1=>by
    refine K k ok hk b0 ?_ b1
    by_cases hjk:j=k
    ·subst hjk;exact Z
    ·rw[getD_set_ne true hjk]at a7;exact a7
   refine wpOp_mono (fun a' w' h3=>?_) h2
   obtain⟨⟨e1,e2⟩,h4,_,h5⟩:=h3
   have h4:=h4 a0 a6
   refine⟨fun _ _=>h4,fun e=>absurd e (by rw[hz];decide),?_⟩
   have b2:jcB P ops E D w' oi v a':=(hy.of_same e1 e2).st hD (hD _ _ _ (hED _ _ he) h4.1);refine ih (A.setIfInBounds j true) a' w' (by rw[getD_set_ne true a6,hz]) X (ready_mono hr (Ne.symm hji)) b2 ?_;rw[gV _ _ hji];exact h5
def jg5(P:Program)(ops:Array Oper)(o:Oper)(v:vV)(a:Act):Prop:=
 (Region.wanted o (yielded ops a.tmps)=true/\∀ w1,jn3 P (fun x y=>y=x) w1 v ((execOp a.eval o).run P w1))\/(Region.wanted o (yielded ops a.tmps)=false/\v=undef)
theorem jg5.wpOp{ops:Array Oper}{i:Nat}{o:Oper}{v:vV}{a:Act}(hi:ops[i]?=some o)(hy:jg5 P ops o v a){K:Act->vW->Prop}{w1:vW}
  (h:K (a.put o.dst v) w1):wpOp P ops NoQ i K a w1:=by
 have z:jbO P ops (fun x y=>y=x) w1 o v a:=by
  rcases hy with⟨h1,h2⟩ | h1
  ·exact .inl ⟨h1,fun w1 _=>h2 w1⟩
  ·exact .inr h1
 exact z.wpOp hi (Eq.refl w1) (fun _=>rfl) (fun w' e=>by have e:w'=w1:=e;rw[e];exact h)
theorem juD(hE:∀ w,E w w)(hT:∀ x y z,E x y->E y z->E x z)(hED:∀ x y,E x y->D x y){ops:Array Oper}{z:Nat}{hd:List Nat}{Q:Act->vW->Prop}{i:Nat}{oi:Oper}{v:vV}(hiz:i≠z)(hi:ops[i]?=some oi)(hsel:∀ (j:Nat) (o:Oper) cs b,ops[j]?=some o->o.op≠.select cs b) :
  ∀ (J:Nat) (A:Array Bool) (a:Act) (w:vW),
   (∀ j oj,ops[j]?=some oj->j≠i->A.getD j true=false->(∀ e∈oj.after,Region.binds .any e=true->e.on≠i)->oi.apart ops oj=true) ->
   i∈Region.ready .any ops A->jg5 P ops oi v a ->
   anyZ P ops z hd E D Q J (A.setIfInBounds i true) (a.put oi.dst v) w->anyZ P ops z hd E D Q (J+1) A a w:=by
 intro J;have a3:∀ (J:Nat) (A:Array Bool) (a:Act) (w w1:vW),(A.getD z true=false->E w w1)->(A.getD z true=true->w1=w) ->
   anyZ P ops z hd E D Q J (A.setIfInBounds i true) (a.put oi.dst v) w->anyZ P ops z hd E D Q J (A.setIfInBounds i true) (a.put oi.dst v) w1:=by
  intro J A a w w1 O h2 H;cases hz:A.getD z true with
  | true=>rw[h2 hz];exact H
  | false=>exact jry hT _ _ _ _ _ (by rw[getD_set_ne true hiz,hz]) H (O hz)
 induction J with
 | zero =>
  intro A a w K hr hy H w1 X Z;have hz:A.getD z true=true:=by have:=H.1;rwa [getD_set_ne true hiz]at this
  refine⟨fun h=>(by rw[h]at hr;cases hr),fun j hj=>?_⟩
  by_cases hji:j=i
  ·subst hji
   exact hy.wpOp hi ⟨fun _ _=>⟨hED _ _ (hE w1),fun _=>hE w1⟩,fun _=>rfl,a3 0 A a w w1 X Z H⟩
  ·have:=ready_mono hj hji
   rw[H.2.1]at this;cases this
 | succ J ih =>
  intro A a w K hr hy H w1 X Z
  refine⟨fun h=>(by rw[h]at hr;cases hr),fun j hj=>?_⟩
  by_cases hji:j=i
  ·subst hji
   exact hy.wpOp hi ⟨fun _ _=>⟨hED _ _ (hE w1),fun _=>hE w1⟩,fun _=>rfl,a3 _ A a w w1 X Z H⟩
  ·have a5:(A.setIfInBounds i true).getD z true=A.getD z true:=getD_set_ne true hiz
   have O:=(H w1 (fun e=>X (a5 ▸ e)) (fun e=>Z (a5 ▸ e))).2 j (ready_mono hj hji)
   obtain⟨a4,oj,a6,a7⟩:=mem_ready.1 hj
   have a8:∀ e∈oj.after,Region.binds .any e=true->e.on≠i:=fun e he hb b1=>by
    have O:=a7 e he hb;have h0:=(mem_ready.1 hr).1;rw[b1]at O;rcases fQ i A.size with h' | h'
    ·simp[h']at h0 O;rw[h0]at O;cases O
    ·simp[gN h']at O
   have h2:=jfu (v:=v) (Y:=fun a'=>execOp a'.eval oi=execOp a.eval oi/\Region.wanted oi (yielded ops a'.tmps)=Region.wanted oi (yielded ops a.tmps)) a6 (K j oj a6 hji a4 a8) (fun cs b=>hsel i oi cs b hi) (fun cs b=>hsel j oj cs b a6)
    (fun a1 a2 h e1 e2=>⟨e1.trans h.1,e2.trans h.2⟩) ⟨rfl,rfl⟩ O
   have a0:∀ k ok,ops[k]?=some ok->k≠i->(A.setIfInBounds j true).getD k true=false ->
     (∀ e∈ok.after,Region.binds .any e=true->e.on≠i)->oi.apart ops ok=true:=fun k ok hk b2 a9 b3=>by
    refine K k ok hk b2 ?_ b3
    by_cases hjk:j=k
    ·subst hjk;exact a4
    ·rw[getD_set_ne true hjk]at a9;exact a9
   refine wpOp_mono (fun a' w' h3=>?_) h2
   obtain⟨⟨e1,e2⟩,h4,b0,h5⟩:=h3
   rw[a5]at h4 b0
   refine⟨h4,b0,?_⟩
   have b4:jg5 P ops oi v a':=by unfold jg5 at *;rw[e1,e2];exact hy
   refine ih (A.setIfInBounds j true) a' w' a0 (ready_mono hr (Ne.symm hji)) b4 ?_;rw[gV _ _ hji];exact h5
def MixZ(P:Program)(l:List Oper)(z:Nat)(hd:List Nat)(E D:vW->vW->Prop)(Q:Act->vW->Prop):List Nat->List Nat->Act->vW->Prop
 | [],done,a,w=>Region.ready .any l.toArray (jbj l done)=[z]/\(jbj l done).getD z true=false/\(jbj l (z :: done)).getD z true=true/\Region.ready .any l.toArray (jbj l (z :: done))=[]/\∀ w1,E w w1->wpOp P l.toArray NoQ z Q a w1
 | k :: ord,done,a,w=>(jbj l done).getD z true=false/\k≠z /\
  ((k∈Region.ready .any l.toArray (jbj l done)/\Region.free .any l.toArray (jbj l done) k=true/\∃ o v,l[k]?=some o/\((jqt l.toArray z k=true/\jcB P l.toArray E D w o v a)\/jg5 P l.toArray o v a)/\MixZ P l z hd E D Q ord (k :: done) (a.put o.dst v) w) \/
  (Region.ready .any l.toArray (jbj l done)=[k]/\k∈hd/\∀ w1,E w w1->wpOp P l.toArray NoQ k (fun a' w'=>D w1 w'/\MixZ P l z hd E D Q ord (k :: done) a' w') a w1))
theorem jeH(hE:∀ w,E w w)(hT:∀ x y z,E x y->E y z->E x z)(hD:∀ x y z,D x y->D y z->D x z)(hED:∀ x y,E x y->D x y)(hs:Region.noSelect l.toArray=true){z:Nat}{hd:List Nat}{Q:Act->vW->Prop}:∀ (ord:List Nat) (done:List Nat) (a:Act) (w:vW),
  MixZ P l z hd E D Q ord done a w->anyZ P l.toArray z hd E D Q (ord.length+1) (jbj l done) a w
 | [],done,a,w,⟨h1,hz,hz2,O,h3⟩=>fun w1 H _=>by
  refine⟨fun J=>(by rw[h1]at J;cases J),fun i K=>?_⟩
  rw[h1]at K;obtain rfl:i=z:=by simpa using K
  exact wpOp_mono (fun X w' h=>⟨fun _ e=>absurd rfl e,fun e=>absurd e (by rw[hz];decide),hz2,O,h⟩) (h3 w1 (H hz))
 | k :: ord,done,a,w,⟨hz,hkz,h⟩=>by
  rcases h with⟨hr,hf,o,v,ho,hy,h⟩ |⟨hr,hkd,h⟩
  ·have A:l.toArray[k]?=some o:=by simpa using ho
   rcases hy with⟨H,hy⟩ | hy
   ·exact jqd hE hT hD hED hkz H A (iI hs) (ord.length+1) (jbj l done) a w hz (iU A hf) hr hy (jeH hE hT hD hED hs ord _ _ _ h)
   ·exact juD hE hT hED hkz A (iI hs) (ord.length+1) (jbj l done) a w (iU A hf) hr hy (jeH hE hT hD hED hs ord _ _ _ h)
  ·intro w1 H _
   refine⟨fun J=>(by rw[hr]at J;cases J),fun i K=>?_⟩
   rw[hr]at K;obtain rfl:i=k:=by simpa using K
   exact wpOp_mono (fun X w' O=>⟨fun _ _=>⟨O.1,fun Z=>absurd hkd Z⟩,fun e=>absurd e (by rw[hz];decide),jeH hE hT hD hED hs ord _ _ _ O.2⟩) (h w1 (H hz))
theorem jdd(ord:List Nat)(z:Nat)(hd:List Nat)(E D:vW->vW->Prop)(hE:∀ w,E w w)(hT:∀ x y z,E x y->E y z->E x z)(hD:∀ x y z,D x y->D y z->D x z)(hED:∀ x y,E x y->D x y){id:Nat}{Q:Exit->Act->vW->Prop}{a:Act}{w:vW}
  (hm:P.follows .mixedOrders=true) (hs:Region.noSelect l.toArray=true) (hl:ord.length+1=l.toArray.size)
  (h:MixZ P l z hd E D (fun a w=>Q .normal a w) ord [] a w.drew):(Code.region id l.toArray true).wp P Q a w:=by
 refine wp_region_any hm ?_;rw[<-hl]
 have:=jeH hE hT hD hED hs ord _ _ _ h
 unfold jbj at this;rw[hl]at this ⊢;exact jjv hE (fun _ _ h=>h) _ _ _ _ this
variable {Q:Act->vW->Prop} {ord done hd:List Nat} {a:Act} {w:vW} {k z:Nat} {o:Oper}
def jqB(l:List Oper)(z:Nat)(done:List Nat)(k:Nat):Bool:=(Region.ready .any l.toArray (jbj l done)).contains k && Region.free .any l.toArray (jbj l done) k && (jbj l done).getD z true == false && k != z
theorem jho(h:jqB l z done k=true):(k∈Region.ready .any l.toArray (jbj l done)/\Region.free .any l.toArray (jbj l done) k=true)/\(jbj l done).getD z true=false/\k≠z:=by
 simp only[jqB,cU,dC,beq_iff_eq,bne_iff_ne]at h
 exact⟨h.1.1,h.1.2,h.2⟩
theorem js3(o:Oper)(ho:l[k]?=some o)(hk:jqB l z done k=true)(hw:Region.wanted o (yielded l.toArray a.tmps)=true)(hq:jjS o.op=true)
  (h:∀ K:Act->Prop,(∀ a',MixZ P l z hd E D Q ord (k :: done) a' w->K a')->o.quiet P a (fun _=>True) K):MixZ P l z hd E D Q (k :: ord) done a w:=by
 obtain⟨⟨A,H⟩,J,O⟩:=jho hk
 obtain⟨v,X,Z⟩:=h _ (fun _ h=>h)
 refine⟨J,O,.inl ⟨A,H,o,v,ho,.inr (.inl ⟨hw,fun w1=>?_⟩),Z⟩⟩
 have e:=X w1 trivial;unfold Oper.quietAt at e;have h4:=fun f args w'=>jk2 (ρ:=a.eval) hq P w1 w' f args;generalize (execOp a.eval o).run P w1=r at *;cases r with
 | ok n w'=>cases n <;> simp only[Oper.quietUpon]at e <;> first | exact e | exact absurd rfl (h4 _ _ _)
 | halt x w'=>simp only[Oper.quietUpon]at e
theorem jcK(o:Oper)(v:vV)(ho:l[k]?=some o)(hk:jqB l z done k=true)(hw:Region.wanted o (yielded l.toArray a.tmps)=true)
  (hv:∀ w1,(execOp a.eval o).run P w1=.ok (.value v) w1) (h:MixZ P l z hd E D Q ord (k :: done) (a.put o.dst v) w):MixZ P l z hd E D Q (k :: ord) done a w:=by
 obtain⟨⟨e,A⟩,H,J⟩:=jho hk
 exact⟨H,J,.inl ⟨e,A,o,v,ho,.inr (.inl ⟨hw,fun w1=>by rw[hv w1];exact⟨rfl,rfl⟩⟩),h⟩⟩
theorem jvI(o:Oper)(v:vV)(ho:l[k]?=some o)(hk:jqB l z done k=true)(he:jqt l.toArray z k=true)(hw:Region.wanted o (yielded l.toArray a.tmps)=true)
  (hv:∀ w1,D w w1->(execOp a.eval o).run P w1=.ok (.value v) w1) (h:MixZ P l z hd E D Q ord (k :: done) (a.put o.dst v) w):MixZ P l z hd E D Q (k :: ord) done a w:=by
 obtain⟨⟨e,A⟩,H,J⟩:=jho hk
 exact⟨H,J,.inl ⟨e,A,o,v,ho,.inl ⟨he,.inl ⟨hw,fun w1 K=>by rw[hv w1 K];exact⟨rfl,rfl⟩⟩⟩,h⟩⟩
theorem jgL(p:Addr)(v:vV){t:TypeId}{x:Operand}{d:Option Tmp}{ty:TypeId}{pos:String}{af:Array Edge}{g:Option (Nat × Bool)}(ho:l[k]?=some ⟨d,.load t x,ty,pos,af,g⟩)(hk:jqB l z done k=true)(he:jqt l.toArray z k=true)
  (hw:Region.wanted ⟨d,.load t x,ty,pos,af,g⟩ (yielded l.toArray a.tmps)=true) (hx:a.eval x=.pointer (some p))
  (hv:∀ w1,D w w1->(Instr.loadAt t (.pointer (some p))).run P w1=.ok v w1) (h:MixZ P l z hd E D Q ord (k :: done) (a.put d v) w):MixZ P l z hd E D Q (k :: ord) done a w:=by
 refine jvI _ v ho hk he hw (fun w1 e=>?_) h
 have:=hv w1 e
 simp only[execOp,hx,bX,this,Result.andThen,cO]
def jwH(l:List Oper)(z:Nat)(hd done:List Nat)(k:Nat):Bool:=Region.ready .any l.toArray (jbj l done) == [k] && (jbj l done).getD z true == false && k != z && hd.contains k
theorem jgJ(o:Oper)(ho:l[k]?=some o)(hk:jwH l z hd done k=true)(hw:Region.wanted o (yielded l.toArray a.tmps)=true)
  (h:∀ w1,E w w1->∀ K:Act->vW->Prop,(∀ a' w',D w1 w'->MixZ P l z hd E D Q ord (k :: done) a' w'->K a' w')->o.wp P a w1 K NoQ):MixZ P l z hd E D Q (k :: ord) done a w:=by
 simp only[jwH,cU,beq_iff_eq,bne_iff_ne,dC]at hk
 refine⟨hk.1.1.2,hk.1.2,.inr ⟨hk.1.1.1,hk.2,fun w1 A=>?_⟩⟩
 unfold wpOp;have e:l.toArray[k]?=some o:=by simpa using ho
 simp only[e,hw,if_true];exact .inl (h w1 A _ (fun _ _ H J=>⟨H,J⟩))
def jAd(l:List Oper)(z:Nat)(done:List Nat):Bool:=Region.ready .any l.toArray (jbj l done) == [z] && (jbj l done).getD z true == false && (jbj l (z :: done)).getD z true == true && (Region.ready .any l.toArray (jbj l (z :: done))).isEmpty
theorem jgK(o:Oper)(ho:l[z]?=some o)(hk:jAd l z done=true)(hw:Region.wanted o (yielded l.toArray a.tmps)=true)
  (h:∀ w1,E w w1->∀ K:Act->vW->Prop,(∀ a' w',Q a' w'->K a' w')->o.wp P a w1 K NoQ):MixZ P l z hd E D Q [] done a w:=by
 simp only[jAd,cU,beq_iff_eq,List.isEmpty_iff]at hk
 refine⟨hk.1.1.1,hk.1.1.2,hk.1.2,hk.2,fun w1 A=>?_⟩
 unfold wpOp;have e:l.toArray[z]?=some o:=by simpa using ho
 simp only[e,hw,if_true];exact .inl (h w1 A _ (fun _ _ h=>h))
end mixz
end
section
attribute [local go_sem] Oper.semAt_some
theorem jc2{p:vB}(h:p.size≠0):p.toList.isEmpty=false:=by
 rw[fP];intro e;rw[List.isEmpty_iff,bO]at e;exact h (by rw[<-jaT,e];rfl)
theorem PaEx.mk1{D:Nat->Prop}{W W':vW}{P:PA}{v:vV}(h:PaAt P v (Grow D W W') W')(e:Ext W W'):PaEx D W P (.returned v) W':=⟨v,rfl,h,e⟩
theorem jAt(W:vW)(D:Nat->Prop)(P:PA)(v:vV)(h:PaAt P v D W):vQ 239 #[.string ⟨#[]⟩,v] W (PaEx D W P):=by
 have H:=Hd h;clear h;unfold vQ;go_in;have e:(⟨#[]⟩:vB).toList.isEmpty=true:=by rw[bO];rfl
 go_wp2_with fail
 go_ret;exact PaEx.mk1 (H.o.mono (fun x z=>.inl z)) (ExtR W)
theorem jyh(W:vW)(D:Nat->Prop)(a q u:vB)(b:Nat)(hB:Blk W b (.cells #[.string q,.string u] 231))(h0:a.size≠0)(ha:a.size<=1000000)(hq:q.size<=1000000) :
  vQ 239 #[.string a,jjo b] W (PaEx D W (.leaf (a++q) u)):=by
 have a0:=jc2 h0;have Q:=hB.cell (i:=0) (v:=.string q) vF;have X:=hB.cell (i:=1) (v:=.string u) vF;have Q0:=Hd Q;have Q1:=Hd X;have hT:=jxX b;unfold jjo at hT ⊢;clear hB h0 Q X;go_enter Tryz.func239,Tryz.ntmps239;go_wp2_with fail
 refine jag [0,1,2,3,4,5,6,7,8,9,10,11,12,13] (Ext) ExtR ExtT vY vY vY ?_;iterate 2 refine vK ?_
 refine jcu _ ((.pointer (some ⟨b,0,none⟩))) rfl vY rfl (fun w1 _=>by kernel_rfl) ?_;refine vS ?_
 refine vK ?_
 refine qKL ⟨b,0,none⟩ _ rfl (fun w1 J=>jaD (fun w=>by kernel_rfl) (jaa Q0.o ((jah _).trans J))) ?_;refine vS ?_;iterate 2 refine vK ?_
 refine jcu _ ((.pointer (some ⟨b,0,none⟩))) rfl vY rfl (fun w1 _=>by kernel_rfl) ?_;refine vS ?_
 refine vK ?_
 refine qKL ⟨b,1,none⟩ _ rfl (fun w1 J=>jaD (fun w=>by kernel_rfl) (jaa Q1.o ((jah _).trans J))) ?_;refine vS ?_
 refine vK ?_
 refine jeu _ rfl vY rfl (fun z hb K Z=>?_);refine jcb (v:=.pointer (some ⟨z.heap.size,0,none⟩)) (w':=z.alloc (.cells #[.string (a++q),.string u] 231)) vY (Z _ _ ((ExtR z).alloc _) ?_);clear Z K;have hN:=Blk.new z (.cells #[.string (a++q),.string u] 231);refine vS ?_;iterate 2 refine vK ?_
 refine qKE (fun w5 O=>?_);have E:Ext W w5:=(((jah W).trans hb).trans ((ExtR z).alloc _)).trans O;have e:=hN.keeps O (fun h=>h);have A:=hb.size;have A:W.heap.size<=z.heap.size:=A;have H:=e.lt;have HX:=Hd (bB E (bB e (bB A H)));clear O hN hb E e A H;go_wp2_with fail
 go_ret
 obtain⟨E,e,A,H⟩:=HX.o
 exact PaEx.mk1 ⟨_,rfl,.inr ⟨A,H⟩,e⟩ E
theorem jAs(W:vW)(D:Nat->Prop)(a q:vB)(n:PA)(T:TypeId)(x:vV)(Dn:Nat->Prop)(b:Nat)(hB:Blk W b (.cells #[.string q,.iface T x] 234))(O:PaAt n (.iface T x) Dn W)(H:∀ x,Dn x->D x/\x < W.heap.size)(h0:a.size≠0)(ha:a.size<=1000000)(hq:q.size<=1000000) :
  vQ 239 #[.string a,extV b] W (PaEx D W (.ext (a++q) n)):=by
 have a0:=jc2 h0;have q0:=hB.cell (i:=0) (v:=.string q) vF;have q1:=hB.cell (i:=1) (v:=.iface T x) vF;have Q0:=Hd q0;have Q1:=Hd q1;have HV:=Hd (bB O H);have hT:=jz2 b;have X:=jnQ (extV b) (.inl ⟨b,rfl⟩);unfold extV at hT X ⊢;clear hB h0 q0 q1 O H;go_enter Tryz.func239,Tryz.ntmps239;go_wp2_with fail
 refine jag [0,1,2,3,4,5,6,7,8,9,10,11,12,13] (Ext) ExtR ExtT vY vY vY ?_;iterate 2 refine vK ?_
 refine jcu _ ((.pointer (some ⟨b,0,none⟩))) rfl vY rfl (fun w1 _=>by kernel_rfl) ?_;refine vS ?_
 refine vK ?_
 refine qKL ⟨b,0,none⟩ _ rfl (fun w1 Z=>jaD (fun w=>by kernel_rfl) (jaa Q0.o ((jah _).trans Z))) ?_;refine vS ?_;iterate 2 refine vK ?_
 refine jcu _ ((.pointer (some ⟨b,0,none⟩))) rfl vY rfl (fun w1 _=>by kernel_rfl) ?_;refine vS ?_
 refine vK ?_
 refine qKL ⟨b,1,none⟩ _ rfl (fun w1 Z=>jaD (fun w=>by kernel_rfl) (jaa Q1.o ((jah _).trans Z))) ?_;refine vS ?_
 refine vK ?_
 refine jeu _ rfl vY rfl (fun A hb K hK=>?_);refine jcb (v:=.pointer (some ⟨A.heap.size,0,none⟩)) (w':=A.alloc (.cells #[.string (a++q),.iface T x] 234)) vY (hK _ _ ((ExtR A).alloc _) ?_);clear hK K;have hN:=Blk.new A (.cells #[.string (a++q),.iface T x] 234);refine vS ?_;iterate 2 refine vK ?_
 refine qKE (fun w5 he=>?_);have J:Ext W w5:=(((jah W).trans hb).trans ((ExtR A).alloc _)).trans he;have z:=hN.keeps he (fun h=>h);have E:=hb.size;have E:W.heap.size<=A.heap.size:=E;have Q:=z.lt;have HX:=Hd (bB J (bB z (bB E Q)));clear he hN hb J z E Q;go_wp2_with fail
 go_ret
 obtain⟨J,z,E,Q⟩:=HX.o
 obtain⟨O,H⟩:=HV.o
 exact PaEx.mk1 ⟨_,T,x,Dn,rfl,.inr ⟨E,Q⟩,z,O.keeps J n (.iface T x) Dn (fun _ _ e=>e),fun e=>by have:=(H _ e).2;omega,fun x hx=>.inl (H x hx).1⟩ J
theorem jBL(W:vW)(D:Nat->Prop)(a:vB)(u:vB)(ks:Nat->PA)(b:Nat)(h:PaO (.br u ks) (brV b) D W)(h0:a.size≠0) :
  vQ 239 #[.string a,brV b] W (PaEx D W (.ext a (.br u ks))):=by
 have K:=jc2 h0;have E:=Hd h;have O:=jBo b;have z:=jnQ (brV b) (.inr (.inl ⟨b,rfl⟩));have A:=jwO (brV b) (.inl ⟨b,rfl⟩);unfold brV at O z A ⊢;clear h h0;go_enter Tryz.func239,Tryz.ntmps239;go_wp2_with fail
 go_ret;have H:Ext W (W.alloc (.cells #[.string a,brV b] 234)):=(ExtR W).alloc _;have J:=Blk.new W (.cells #[.string a,brV b] 234);exact PaEx.mk1 ⟨_,_,_,D,rfl,.inr ⟨bL _,J.lt⟩,J,E.o.at'.keeps H _ _ _ (fun _ _ e=>e),fun e=>by have:=E.o.lt _ e;omega,fun x Q=>.inl Q⟩ H
theorem jBM(W:vW)(D:Nat->Prop)(a:vB)(h0:a.size≠0):vQ 239 #[.string a,noV] W (PaEx D W .no):=by
 have A:=jc2 h0;have e:=jnQ noV (.inr (.inr rfl));have o:=jwO noV (.inr rfl);have z:=jBp;unfold noV at e o z ⊢;clear h0;unfold vQ;go_in;go_wp2_with fail
 go_ret;exact PaEx.mk1 rfl (ExtR W)
theorem pj_c(W:vW)(D:Nat->Prop)(a:vB)(P:PA)(v:vV)(h:PaO P v D W)(hn:P.isNil=false)(ha:a.size<=1000000)(hd:Dp P 1000000) :
  vQ 239 #[.string a,v] W (PaEx D W (jci a P)):=by
 unfold jci
 by_cases h0:a.size=0
 ·rw[if_pos h0,jbq h0];exact jAt W D P v h.at'
 rw[if_neg h0];cases P with
 | nil=>cases hn
 | no=>obtain rfl:v=noV:=h.at';exact jBM W D a h0
 | leaf q u =>
  obtain⟨b,rfl,o,e⟩:=h.at'
  exact jyh W D a q u b e h0 ha hd
 | ext q n =>
  obtain⟨b,T,x,H,rfl,o,e,z,J,A⟩:=h.at'
  exact jAs W D a q n T x H b e z (fun x E=>⟨A x E,h.lt x (A x E)⟩) h0 ha hd.1
 | br u ks =>
  obtain⟨b,K,O,rfl,o,e,z,J⟩:=h.at'
  exact jBL W D a u ks b h h0
end
section
attribute [local go_sem] Oper.semAt_some
theorem jdI{a:vB}{P:PA}(h:P.isNil=false):(jci a P).isNil=false:=by
 unfold jci;split
 ·exact h
 ·cases P <;> rfl
theorem ji0:∀ (P:PA) (p u:vB),(putP P p u).isNil=false
 | .nil,_,_=>rfl
 | .no,_,_=>rfl
 | .leaf q v,p,u=>by
  unfold putP;split
  ·rfl
  ·refine jdI ?_
   rw[jcS];split
   ·rw[jcS];split <;> rfl
   ·rw[jcS];split <;> rfl
 | .ext q n,p,u=>by
  unfold putP;split
  ·exact jdI (ji0 n _ _)
  ·refine jdI ?_
   rw[jcS];split <;> rfl
 | .br v ks,p,u=>by
  unfold putP;split <;> rfl
theorem jcL{P:Program}{a:Act}{w:vW}{d:Option Tmp}{x:Operand}{name:String}{args:Array Operand}{ats:Array TypeId}{ty:TypeId}{pos:String}{af:Array Edge}{g:Option (Nat × Bool)}{T:TypeId}{v r:vV}{f:FuncId}{vs:Array vV}(hx:a.eval x=.iface T v)
  (hm:(Go.method (P.types.size+Made.depth) T v name).run P w=.ok (f,r) w) (eg:∀ args w,(callFunc f args).run P w=.ok (.enter f args) w) (hv:args.map a.eval=vs) :
  (execOp a.eval ⟨d,.call { callee:=.invoke x name,args:=args,argTypes:=ats },ty,pos,af,g⟩).run P w=.ok (.enter f (#[r]++vs)) w:=by
 subst hv;have e:(#[Value.iface T v]++args.map a.eval)[0]?=some (.iface T v):=by simp[Array.getElem?_append]
 have o:(#[Value.iface T v]++args.map a.eval).extract 1 (#[Value.iface T v]++args.map a.eval).size=args.map a.eval:=by simp
 simp only[execOp,resolve,hx,bX,cO,Result.andThen,invoke,e,o,callMethod,run_program,hm,eg]
def jkR:PA->FuncId
 | .leaf _ _=>237
 | .ext _ _=>243
 | .br _ _=>238
 | _=>254
def jfj:PA->FuncId
 | .leaf _ _=>234
 | .ext _ _=>240
 | .br _ _=>247
 | _=>251
def jgf:PA->FuncId
 | .leaf _ _=>235
 | .ext _ _=>241
 | .br _ _=>248
 | _=>252
def jmv:PA->FuncId
 | .leaf _ _=>236
 | .ext _ _=>242
 | .br _ _=>249
 | _=>253
set_option maxRecDepth 100000
theorem jiz(P:PA):∀ args w,(callFunc (jkR P) args).run Tryz.prog w=.ok (.enter (jkR P) args) w:=by intro args w;cases P <;> kernel_rfl
theorem jfC(P:PA):∀ args w,(callFunc (jfj P) args).run Tryz.prog w=.ok (.enter (jfj P) args) w:=by intro args w;cases P <;> kernel_rfl
theorem jep(P:PA):∀ args w,(callFunc (jgf P) args).run Tryz.prog w=.ok (.enter (jgf P) args) w:=by intro args w;cases P <;> kernel_rfl
theorem jqu(P:PA):∀ args w,(callFunc (jmv P) args).run Tryz.prog w=.ok (.enter (jmv P) args) w:=by intro args w;cases P <;> kernel_rfl
structure jzh(P:PA)(T:TypeId)(x:Value):Prop where
 put:∀ w,(Go.method (Tryz.prog.types.size+Made.depth) T x "guilloche/trie.put").run Tryz.prog w=.ok (jkR P,x) w
 drop:∀ w,(Go.method (Tryz.prog.types.size+Made.depth) T x "guilloche/trie.drop").run Tryz.prog w=.ok (jfj P,x) w
 ent:∀ w,(Go.method (Tryz.prog.types.size+Made.depth) T x "guilloche/trie.entries").run Tryz.prog w=.ok (jgf P,x) w
 form:∀ w,(Go.method (Tryz.prog.types.size+Made.depth) T x "guilloche/trie.form").run Tryz.prog w=.ok (jmv P,x) w
theorem PaAt.meth{P:PA}{T:TypeId}{x:vV}{D:Nat->Prop}{W:vW}(h:PaAt P (.iface T x) D W):jzh P T x:=by
 cases P with
 | nil=>cases h
 | no =>
  have h:Value.iface T x=noV:=h;unfold noV at h;injection h with h1 h2;subst h1 h2
  exact⟨fun w=>by kernel_rfl,fun w=>by kernel_rfl,fun w=>by kernel_rfl,fun w=>by kernel_rfl⟩
 | leaf q u =>
  obtain⟨b,h,_⟩:=h
  unfold jjo at h;injection h with h1 h2;subst h1 h2
  exact⟨fun w=>by kernel_rfl,fun w=>by kernel_rfl,fun w=>by kernel_rfl,fun w=>by kernel_rfl⟩
 | ext q n =>
  obtain⟨b,_,_,_,h,_⟩:=h
  unfold extV at h;injection h with h1 h2;subst h1 h2
  exact⟨fun w=>by kernel_rfl,fun w=>by kernel_rfl,fun w=>by kernel_rfl,fun w=>by kernel_rfl⟩
 | br u ks =>
  obtain⟨b,_,_,h,_⟩:=h
  unfold brV at h;injection h with h1 h2;subst h1 h2
  exact⟨fun w=>by kernel_rfl,fun w=>by kernel_rfl,fun w=>by kernel_rfl,fun w=>by kernel_rfl⟩
theorem jx8:jzh .no 240 (.agg #[]):=PaAt.meth (D:=fun _=>True) (W:={ (default:vW)with heap:=#[] }) rfl
def PutC(P:PA):Prop:=∀ (W:vW) (T:TypeId) (x:vV) (D:Nat->Prop) (p u:vB),PaO P (.iface T x) D W->p.size<=900000->jaB p=true->Dp P 900000 ->
 vQ (jkR P) #[x,.string p,.string u] W (PaTo D W (putP P p u))
theorem PaTo.mk1{D:Nat->Prop}{W W':vW}{P:PA}{v:vV}(h:PaAt P v (Grow D W W') W')(e:jaf D W W'):PaTo D W P (.returned v) W':=⟨v,rfl,h,e⟩
theorem jnH(T:TypeId)(x:vV)(w:vW):(binOp .eql 121 (.iface T x) .nilIface).run Tryz.prog w=.ok (.bool false) w:=vY
theorem jz0(w:vW):(binOp .eql 121 .nilIface .nilIface).run Tryz.prog w=.ok (.bool true) w:=vY
theorem jg9(u:vB)(vk:Nat->vV):(brC u vk).length=17:=by simp[brC]
theorem jeI(u:vB)(vk:Nat->vV){i:Nat}(h:i < 16):(brC u vk)[1+i]?=some (vk i):=by
 rw[gL];show ((List.range 16).map vk)[i]?=_;rw[cA,fA h];rfl
def setV(vk:Nat->vV)(i:Nat)(v:vV):Nat->vV:=fun j=>if j=i then v else vk j
theorem jrK(u:vB)(vk:Nat->vV){i:Nat}(h:i < 16)(v:vV):(brC u vk).toArray.setIfInBounds (1+i) v=(brC u (setV vk i v)).toArray:=by
 have e:(brC u vk).set (1+i) v=brC u (setV vk i v):=by
  rw[gL];show Value.string u ::((List.range 16).map vk).set i v=Value.string u ::(List.range 16).map (setV vk i v)
  congr 1
  apply List.ext_getElem?;intro j;rw[List.getElem?_set]
  by_cases hj:i=j
  ·subst hj
   rw[if_pos rfl,if_pos (by simpa using h),cA,fA h];simp[setV]
  ·rw[if_neg hj]
   by_cases hj16:j < 16
   ·rw[cA,cA,fA hj16]
    simp[setV,Ne.symm hj]
   ·rw[jF (by simp;omega),jF (by simp;omega)]
 rw[<-e];simp
theorem jxu(u u':vB)(vk:Nat->vV):(brC u vk).toArray.setIfInBounds 0 (.string u')=(brC u' vk).toArray:=by simp[brC]
structure BrAt(u:vB)(ks:Nat->PA)(b:Nat)(vk:Nat->Value)(Dk:Nat->Nat->Prop)(D:Nat->Prop)(W:World):Prop where
 mem:D b
 blk:Blk W b (.cells (brC u vk).toArray 238)
 kid:∀ i,i < 16->PaAt (ks i) (vk i) (Dk i) W/\¬ Dk i b/\∀ x,Dk i x->D x
 apart:∀ i j,i < 16->j < 16->i≠j->∀ x,Dk i x->¬ Dk j x
 lt:∀ x,D x->x < W.heap.size
theorem BrAt.pa{u:vB}{ks:Nat->PA}{b:Nat}{vk:Nat->vV}{Dk:Nat->Nat->Prop}{D:Nat->Prop}{W:vW}(h:BrAt u ks b vk Dk D W):PaO (.br u ks) (brV b) D W:=
 ⟨⟨b,vk,Dk,rfl,h.mem,h.blk,h.kid,h.apart⟩,h.lt⟩
theorem PaO.br{u:vB}{ks:Nat->PA}{b:Nat}{D:Nat->Prop}{W:vW}(h:PaO (.br u ks) (brV b) D W):∃ o z,BrAt u ks b o z D W:=by
 obtain⟨K,o,z,e,A,E,H,J⟩:=h.at'
 unfold brV at e;injection e with _ e;injection e with e;injection e with e;injection e with e;subst e
 exact⟨o,z,A,E,H,J,h.lt⟩
theorem BrAt.keeps{F:BSet}{u:vB}{ks:Nat->PA}{b:Nat}{vk:Nat->vV}{Dk:Nat->Nat->Prop}{D:Nat->Prop}{W W':vW}(h:BrAt u ks b vk Dk D W)(k:jaf F W W')(hF:∀ x,D x->¬ F x):BrAt u ks b vk Dk D W':=
 ⟨h.mem,h.blk.keeps k (hF b h.mem),fun i e=>⟨(h.kid i e).1.keeps k _ _ _ (fun x o=>hF x ((h.kid i e).2.2 x o)),(h.kid i e).2⟩,h.apart,fun x o=>bQ (h.lt x o) k.size⟩
theorem BrAt.val{u:vB}{ks:Nat->PA}{b:Nat}{vk:Nat->vV}{Dk:Nat->Nat->Prop}{D:Nat->Prop}{W:vW}(h:BrAt u ks b vk Dk D W)(u':vB):BrAt u' ks b vk Dk D (W.setCell ⟨b,0,none⟩ (.string u')):=by
 have K:=jaf.oneSet W ⟨b,0,none⟩ (.string u');have A:=h.blk.set_same (i:=0) (.string u');rw[jxu]at A
 exact⟨h.mem,A,fun i o=>⟨(h.kid i o).1.keeps K _ _ _ (fun x z e=>(h.kid i o).2.1 (by have e:x=b:=e;rw[<-e];exact z)),(h.kid i o).2⟩,h.apart,fun x z=>bQ (h.lt x z) K.size⟩
theorem BrAt.turn{u:vB}{ks:Nat->PA}{b:Nat}{vk:Nat->vV}{Dk:Nat->Nat->Prop}{D:Nat->Prop}{W W1:vW}(h:BrAt u ks b vk Dk D W){i:Nat}(hi:i < 16){P:PA}{v:vV}(k:jaf (Dk i) W W1)(hP:PaAt P v (Grow (Dk i) W W1) W1) :
  BrAt u (setK ks i P) b (setV vk i v) (fun j=>if j=i then Grow (Dk i) W W1 else Dk j) (Grow D W W1) (W1.setCell ⟨b,1+i,none⟩ v):=by
 have K:=jaf.oneSet W1 ⟨b,1+i,none⟩ v;have X:=(h.blk.keeps k (h.kid i hi).2.1).set_same (i:=1+i) v;rw[jrK u vk hi]at X;have Z:=h.lt b h.mem
 refine⟨.inl h.mem,X,fun j A=>?_,fun j l A Q H x o z=>?_,fun x o=>?_⟩
 ·by_cases e:j=i
  ·subst e
   simp only[if_pos,jco];rw[show setV vk j v j=v from if_pos rfl]
   refine⟨hP.keeps K _ _ _ (fun x o e=>?_),fun e=>?_,fun x o=>?_⟩
   ·have e:x=b:=e
    rw[e]at o;rcases o with o | o
    ·exact (h.kid j hi).2.1 o
    ·omega
   ·rcases e with e | e
    ·exact (h.kid j hi).2.1 e
    ·omega
   ·rcases o with o | o
    ·exact .inl ((h.kid j hi).2.2 x o)
    ·exact .inr o
  ·simp only[if_neg e]
   rw[jeX _ _ e,show setV vk i v j=vk j from if_neg e]
   refine⟨((h.kid j A).1.keeps k _ _ _ (fun x o z=>h.apart j i A hi e x o z)).keeps K _ _ _ (fun x o e=>?_),(h.kid j A).2.1,fun x o=>.inl ((h.kid j A).2.2 x o)⟩
   have e:x=b:=e;rw[e]at o;exact (h.kid j A).2.1 o
 ·have O:∀ m,m < 16->Dk m x->¬(W.heap.size<=x/\x < W1.heap.size):=fun m hm hd e=>by have:=h.lt x ((h.kid m hm).2.2 x hd);omega
  by_cases e:j=i
  ·subst e
   have J:Grow (Dk j) W W1 x:=by simpa using o
   have E:Dk l x:=by simpa [Ne.symm H]using z
   rcases J with J | J
   ·exact h.apart j l A Q H x J E
   ·exact O l Q E J
  ·have J:Dk j x:=by simpa [e]using o
   by_cases e2:l=i
   ·subst e2
    have E:Grow (Dk l) W W1 x:=by simpa using z
    rcases E with E | E
    ·exact h.apart j l A Q H x J E
    ·exact O j A J E
   ·have E:Dk l x:=by simpa [e2]using z
    exact h.apart j l A Q H x J E
 ·exact bQ (jeN h.lt k x o) K.size
theorem BrAt.turn_keeps{u:vB}{ks:Nat->PA}{b:Nat}{vk:Nat->vV}{Dk:Nat->Nat->Prop}{D:Nat->Prop}{W W1:vW}(h:BrAt u ks b vk Dk D W){i:Nat}(hi:i < 16)(k:jaf (Dk i) W W1)(v:vV):jaf D W (W1.setCell ⟨b,1+i,none⟩ v):=
 (k.mono (fun x _ o=>(h.kid i hi).2.2 x o)).trans' (jaf.oneSet W1 ⟨b,1+i,none⟩ v) (fun x _ e=>by have e:x=b:=e;rw[e];exact h.mem)
theorem jtf(W:vW)(D:Nat->Prop)(p u:vB):vQ 254 #[.agg #[],.string p,.string u] W (PaTo D W (.leaf p u)):=by
 unfold vQ;go_in;go_wp2_with fail
 go_ret;have z:=((ExtR W).alloc (.cells #[] 240)).alloc (.cells #[.string p,.string u] 231);have o:=Blk.new (W.alloc (.cells #[] 240)) (.cells #[.string p,.string u] 231);rw[bR]at o;exact PaTo.mk1 ⟨_,rfl,.inr ⟨Nat.le_succ _,o.lt⟩,o⟩ (z.mono (fun _ _ e=>e.elim))
theorem joy(W:vW)(D:Nat->Prop)(u0 u:vB)(ks:Nat->PA)(b:Nat)(h:PaO (.br u0 ks) (brV b) D W):vQ 238 #[.pointer (some ⟨b,0,none⟩),.string ⟨#[]⟩,.string u] W (fun e w'=>e=.returned (brV b)/\PaTo D W (.br u ks) e w'):=by
 obtain⟨E,J,hb⟩:=h.br
 have O:=hb.blk.cellL (i:=0) (v:=.string u0) vF;have Q:W.frozen? ⟨b,0,none⟩=false:=hb.blk.frozen;have H:=Hd hb;have z:(⟨#[]⟩:vB).toList.isEmpty=true:=by rw[bO];rfl
 clear h hb;unfold vQ;go_in;go_wp2_with fail
 go_ret;have K:=jaf.oneSet W ⟨b,0,none⟩ (.string u)
 exact⟨rfl,PaTo.mk1 ((H.o.val u).pa.at'.mono (fun x A=>.inl A)) (K.mono (fun x _ e=>by have e:x=b:=e;rw[e];exact H.o.mem))⟩
theorem juP(W:vW)(D:Nat->Prop)(u0 u:vB)(ks:Nat->PA)(b:Nat)(h:PaO (.br u0 ks) (brV b) D W)(p:vB)(h0:p.size≠0)(hp:jaB p=true)(hs:p.size<=900000)(hn:(ks (jat p)).isNil=false)(hd:Dp (ks (jat p)) 900000)(hk:PutC (ks (jat p))) :
  vQ 238 #[.pointer (some ⟨b,0,none⟩),.string p,.string u] W (fun e w'=>e=.returned (brV b)/\PaTo D W (.br u0 (setK ks (jat p) (putP (ks (jat p)) (jbB p) u))) e w'):=by
 obtain⟨vk,Dk,hb⟩:=h.br
 obtain⟨y,t,hy⟩:=jcp h0
 obtain⟨e1,e2⟩:=jbL hy
 have A:=jdV hp h0
 obtain⟨g0,a6⟩:=jgD hy
 have b1:=jc2 h0;have Q:=jcx hp;have a3:(jbB p).size<=900000:=by unfold jbB;rw[ja3];omega
 have hI:jat p=(p[0]'g0).toNat:=by rw[e1,a6]
 have J:=hb.kid (jat p) A
 obtain⟨T,x,a1⟩:=J.1.form hn
 have q1:=hb.blk.cellL (jeI u0 vk A);rw[a1]at q1;have HK:=Hd hk;have HB:=Hd hb;have HM:=Hd ((show PaAt (ks (jat p)) (.iface T x) (Dk (jat p)) W by rw[<-a1];exact J.1).meth);have a8:=Hd (show PaAt (ks (jat p)) (.iface T x) (Dk (jat p)) W by rw[<-a1];exact J.1);have a9:=Hd hd;clear hb J hk hd;have a0:=Hd (show ∀ X,Ext W X->vQ (jkR (ks (jat p))) #[x,.string (jbB p),.string u] X (PaTo (Dk (jat p)) X (putP (ks (jat p)) (jbB p) u))from fun X e=>HK.o X T x _ _ _ ⟨a8.o.keeps e _ _ _ (fun _ _ e=>e),fun z hz=>bQ (HB.o.lt z ((HB.o.kid _ A).2.2 z hz)) e.size⟩ a3 Q a9.o);have hQ:=jnH T x;have Q1:=Hd q1;have b0:=Hd (show ¬(Dk (jat p) b\/W.heap.size<=b)from fun e=>e.elim (HB.o.kid _ A).2.1 (fun e=>by have:=HB.o.lt b HB.o.mem;omega));have a4:=Hd hI;have E:=Hd A;have b2:=Hd (bB Q a3);have c1:(0:Int) < (p.size:Int):=vO
 have c2:((p[0]'g0).toNat:Int) < 16:=vO
 have c3:(1:Int)<=(p.size:Int):=vO
 rw[hI]at q1;have a7:(p[0]'g0).toNat < 16:=vO
 obtain⟨i,hi⟩:=vE (p[0]'g0).toNat
 have b3:=Hd hi;clear h a1 hy e1 e2 h0 hp hn a6 Q a3 A hI hi;go_enter Tryz.func238,Tryz.ntmps238;go_wp2_with fail
 refine jdd [0,1,2,3,4,5,6,7,8,9,10,11,12,14,15,13,16] 17 [13] Ext (jaf (fun z=>Dk (jat p) z\/W.heap.size<=z)) ExtR ExtT (fun x y z h k=>jaf.trans h k) (fun x y h=>h.mono (fun _ _ h=>h.elim)) vY vY vY ?_;iterate 4 refine vZ ?_
 refine jcK _ ((.pointer (some ⟨b,0,none⟩))) rfl vY rfl (fun w1=>by kernel_rfl) ?_;refine vS ?_;iterate 2 refine vZ ?_
 refine jgL ⟨b,1+(p[0]'g0).toNat,none⟩ _ rfl vY vY rfl rfl (fun w1 h1=>jaD (fun w=>by kernel_rfl) (by rw[<-a4.o];exact jar Q1.o (((jaf.refl (fun z=>Dk (jat p) z\/W.heap.size<=z) W).drew).trans h1) (by exact b0.o))) ?_;refine vS ?_;iterate 3 refine vZ ?_
 refine jcK _ (.iface T x) rfl vY rfl (fun w1=>by kernel_rfl) ?_;refine vS ?_
 refine vZ ?_
 refine jcK _ ((.pointer (some ⟨b,0,none⟩))) rfl vY rfl (fun w1=>by kernel_rfl) ?_;refine vS ?_
 refine vZ ?_
 refine jgJ _ rfl vY rfl (fun X hb K hK=>?_);have kb:Ext W X:=(jah _).trans hb;refine jbK (jcL (f:=jkR (ks (jat p))) (vs:=#[.string (jbB p),.string u]) rfl (HM.o.put _) (jiz _) vY) ?_;refine (a0.o X kb).mono ?_;rintro e w2 ⟨v2,rfl,Z,O⟩
 refine⟨v2,rfl,hK _ _ (O.mono (fun z _ hz=>.inl hz)) ?_⟩
 have HS:=Hd (bB kb (bB Z O));clear hK K hb kb Z O;refine vS ?_
 refine vZ ?_
 refine jgK _ rfl vY rfl (fun wc hc K hK=>?_)
 obtain⟨hb,Z,O⟩:=HS.o
 have H:=HB.o.keeps (F:=fun _=>False) (hb) (fun _ _ e=>e);have kc:jaf (Dk (jat p)) X wc:=O.trans (hc.mono (fun _ _ e=>e.elim));have a5:PaAt (putP (ks (jat p)) (jbB p) u) v2 (Grow (Dk (jat p)) X wc) wc:=(Z.keeps hc _ _ _ (fun _ _ e=>e)).mono (fun z hz=>hz.imp id (fun e=>⟨e.1,bQ e.2 hc.size⟩))
 obtain⟨T2,x2,rfl⟩:=a5.form (ji0 _ _ _)
 have ht:=H.turn E.o kc a5;have a2:=H.turn_keeps E.o kc (.iface T2 x2)
 obtain⟨old,q7⟩:∃ v,wc.cell? ⟨b,1+jat p,none⟩=some v:=⟨_,(H.blk.keeps kc (H.kid _ E.o).2.1).cellL (bA (by rw[jg9];have:=E.o;omega))⟩
 have f7:wc.frozen? ⟨b,1+jat p,none⟩=false:=(H.blk.keeps kc (H.kid _ E.o).2.1).frozen;have HT:=Hd (bB ht (bB a2 hb));rw[a4.o]at q7 f7;clear hb Z O H kc a5 ht a2 hc;go_simp;refine hK _ _ ?_;clear hK K q7 f7;go_wp2_with fail
 go_ret
 obtain⟨ht,a2,hb⟩:=HT.o
 rw[<-a4.o]
 exact⟨rfl,PaTo.mk1 (ht.pa.at'.mono (fun z hz=>hz.imp id (fun e=>⟨bK hb.size e.1,bQ e.2 (jaf.oneSet wc ⟨b,1+jat p,none⟩ (.iface T2 x2)).size⟩))) (((hb.mono (fun _ _ e=>e.elim)):jaf D W X).trans a2)⟩
theorem jox(W:vW)(D:Nat->Prop)(u0 u:vB)(ks:Nat->PA)(b:Nat)(h:PaO (.br u0 ks) (brV b) D W)(p:vB)(h0:p.size≠0)(hp:jaB p=true)(hs:p.size<=900000)(hn:(ks (jat p)).isNil=true) :
  vQ 238 #[.pointer (some ⟨b,0,none⟩),.string p,.string u] W (fun e w'=>e=.returned (brV b)/\PaTo D W (.br u0 (setK ks (jat p) (.leaf (jbB p) u))) e w'):=by
 obtain⟨vk,Dk,hb⟩:=h.br
 obtain⟨y,t,hy⟩:=jcp h0
 obtain⟨e1,e2⟩:=jbL hy
 have A:=jdV hp h0
 obtain⟨g0,b0⟩:=jgD hy
 have c0:=jc2 h0;have a3:=jcx hp;have b1:(jbB p).size<=900000:=by unfold jbB;rw[ja3];omega
 have hI:jat p=(p[0]'g0).toNat:=by rw[e1,b0]
 have a4:=hb.kid (jat p) A;have b2:vk (jat p)=.nilIface:=by have:=a4.1;rw[jbE hn]at this;exact this
 have q1:=hb.blk.cellL (jeI u0 vk A);rw[b2]at q1;have f1:W.frozen? ⟨b,1+jat p,none⟩=false:=hb.blk.frozen
 obtain⟨W1,O⟩:=vE (W.setCell ⟨b,1+jat p,none⟩ noV)
 have Z:=hb.turn A (P:=.no) (v:=noV) (jaf.refl _ W) rfl;rw[<-O]at Z
 obtain⟨Q,a5⟩:=vE (fun j=>if j=jat p then Grow (Dk (jat p)) W W else Dk j)
 obtain⟨b7,a0⟩:=vE (setK ks (jat p) .no)
 have a6:setK b7 (jat p) (.leaf (jbB p) u)=setK ks (jat p) (.leaf (jbB p) u):=by
  funext j;unfold setK;rw[a0];unfold setK
  by_cases e:j=jat p
  ·rw[if_pos e,if_pos e]
  ·rw[if_neg e,if_neg e,if_neg e]
 rw[<-a5, <-a0]at Z;have b3:W1.cell? ⟨b,1+jat p,none⟩=some noV:=by
  have:=Z.blk.cellL (jeI u0 _ A)
  rw[this];show some (setV vk (jat p) noV (jat p))=_;unfold setV;rw[if_pos rfl]
 have c4:=Hd O;have b8:=Hd a6;have b4:Hid (∀ z,Grow D W W z->D z):=(fun z J=>J.elim id (fun e=>by omega));have b5:=Hd (show jaf D W W1 by rw[O];exact (jaf.oneSet W ⟨b,1+jat p,none⟩ noV).mono (fun z _ e=>by have e:z=b:=e;rw[e];exact hb.mem));have HB:=Hd Z;have Q1:=Hd b3;clear a5 a0 Z b3 a6 hb a4;unfold noV at O Q1;have a1:=Hd (show ∀ wb,Ext W1 wb->vQ 254 #[.agg #[],.string (jbB p),.string u] wb (PaTo (Q (jat p)) wb (.leaf (jbB p) u))from fun wb _=>jtf wb _ _ _);have b9:=Hd (show ¬(Q (jat p) b\/W1.heap.size<=b)from fun e=>e.elim (HB.o.kid _ A).2.1 (fun e=>by have:=HB.o.lt b HB.o.mem;omega));have a8:=Hd hI;have E:=Hd A;have c5:=Hd (bB a3 b1);have c1:(0:Int) < (p.size:Int):=vO
 have c2:((p[0]'g0).toNat:Int) < 16:=vO
 have c3:(1:Int)<=(p.size:Int):=vO
 rw[hI]at q1 f1 O;have b6:(p[0]'g0).toNat < 16:=vO
 obtain⟨i,hi⟩:=vE (p[0]'g0).toNat
 have c6:=Hd hi;clear h b2 hy e1 e2 h0 hp hn b0 a3 b1 A hI hi;go_enter Tryz.func238,Tryz.ntmps238;go_wp2_with fail
 rw[<-O];refine jdd [0,1,2,3,4,5,6,7,8,9,10,11,12,14,15,13,16] 17 [13] Ext (jaf (fun z=>Q (jat p) z\/W1.heap.size<=z)) ExtR ExtT (fun x y z h k=>jaf.trans h k) (fun x y h=>h.mono (fun _ _ h=>h.elim)) vY vY vY ?_;iterate 4 refine vZ ?_
 refine jcK _ ((.pointer (some ⟨b,0,none⟩))) rfl vY rfl (fun w1=>by kernel_rfl) ?_;refine vS ?_;iterate 2 refine vZ ?_
 refine jgL ⟨b,1+(p[0]'g0).toNat,none⟩ _ rfl vY vY rfl rfl (fun w1 h1=>jaD (fun w=>by kernel_rfl) (by rw[<-a8.o];exact jar Q1.o (((jaf.refl (fun z=>Q (jat p) z\/W1.heap.size<=z) W1).drew).trans h1) (by exact b9.o))) ?_;refine vS ?_;iterate 3 refine vZ ?_
 refine jcK _ (.iface 240 (.agg #[])) rfl vY rfl (fun w1=>by kernel_rfl) ?_;refine vS ?_
 refine vZ ?_
 refine jcK _ ((.pointer (some ⟨b,0,none⟩))) rfl vY rfl (fun w1=>by kernel_rfl) ?_;refine vS ?_
 refine vZ ?_
 refine jgJ _ rfl vY rfl (fun wb hb K hK=>?_);have kb:Ext W1 wb:=(jah _).trans hb;refine jbK (jcL (f:=254) (vs:=#[.string (jbB p),.string u]) rfl (jx8.put _) (fun args w=>by kernel_rfl) vY) ?_;refine (a1.o wb kb).mono ?_;rintro e w2 ⟨v2,rfl,a2,X⟩
 refine⟨v2,rfl,hK _ _ (X.mono (fun z _ J=>.inl J)) ?_⟩
 have HS:=Hd (bB kb (bB a2 X));clear hK K hb kb a2 X;refine vS ?_
 refine vZ ?_
 refine jgK _ rfl vY rfl (fun wc hc K hK=>?_)
 obtain⟨hb,a2,X⟩:=HS.o
 have H:=HB.o.keeps (F:=fun _=>False) (hb) (fun _ _ e=>e);have kc:jaf (Q (jat p)) wb wc:=X.trans (hc.mono (fun _ _ e=>e.elim));have a9:PaAt (PA.leaf (jbB p) u) v2 (Grow (Q (jat p)) wb wc) wc:=(a2.keeps hc _ _ _ (fun _ _ e=>e)).mono (fun z J=>J.imp id (fun e=>⟨e.1,bQ e.2 hc.size⟩))
 obtain⟨T2,x2,rfl⟩:=a9.form rfl
 have ht:=H.turn E.o kc a9;have a7:=H.turn_keeps E.o kc (.iface T2 x2)
 obtain⟨old,q7⟩:∃ v,wc.cell? ⟨b,1+jat p,none⟩=some v:=⟨_,(H.blk.keeps kc (H.kid _ E.o).2.1).cellL (bA (by rw[jg9];have:=E.o;omega))⟩
 have f7:wc.frozen? ⟨b,1+jat p,none⟩=false:=(H.blk.keeps kc (H.kid _ E.o).2.1).frozen;have HT:=Hd (bB ht (bB a7 hb));rw[a8.o]at q7 f7;clear hb a2 X H kc a9 ht a7 hc;go_simp;refine hK _ _ ?_;clear hK K q7 f7;go_wp2_with fail
 go_ret
 obtain⟨ht,a7,hb⟩:=HT.o
 rw[<-a8.o];have a6:=b8.o
 refine⟨rfl,PaTo.mk1 (PaAt.mono (fun z J=>?_) (by rw[<-a6];exact ht.pa.at')) ((b5.o.trans (hb.mono (fun _ _ e=>e.elim))).trans (a7.mono (fun z _ J=>b4.o z J)))⟩
 rcases J with J | J
 ·exact .inl (b4.o z J)
 ·exact .inr ⟨bK (bK b5.o.size hb.size) J.1,bQ J.2 (jaf.oneSet wc ⟨b,1+jat p,none⟩ (.iface T2 x2)).size⟩
end
section
attribute [local go_sem] Oper.semAt_some
def AddP(D:Nat->Prop)(W:vW)(b:Nat)(P:PA)(e:Ending)(w':vW):Prop:=e=.returned (brV b)/\PaAt P (brV b) (Grow D W w') w'/\jaf D W w'
theorem jko(W:vW)(D:Nat->Prop)(v:vB)(ks:Nat->PA)(b:Nat)(h:PaO (.br v ks) (brV b) D W)(p u:vB)(hp:jaB p=true)(hs:p.size<=900000)(hf:∀ x t,p.data.toList=x :: t->(ks x.toNat).isNil=true) :
  vQ 238 #[.pointer (some ⟨b,0,none⟩),.string p,.string u] W (AddP D W b (addK (.br v ks) p u)):=by
 rw[jcS]
 by_cases h0:p.size=0
 ·rw[if_pos h0,jbq h0]
  refine (joy W D v u ks b h).mono ?_;rintro e w' ⟨rfl,E,e,o,z⟩;injection e with e;subst e
  exact⟨rfl,o,z⟩
 ·rw[if_neg h0]
  obtain⟨x,t,A⟩:=jcp h0
  refine (jox W D v u ks b h p h0 hp hs (by rw[(jbL A).1];exact hf x t A)).mono ?_;rintro e w' ⟨rfl,E,e,o,z⟩;injection e with e;subst e
  exact⟨rfl,o,z⟩
theorem jwJ{W:vW}{b:Nat}(h:Blk W b (.cells #[.string ⟨#[]⟩,.nilIface,.nilIface,.nilIface,.nilIface,.nilIface,.nilIface,.nilIface,.nilIface,.nilIface,.nilIface,.nilIface,.nilIface,.nilIface,.nilIface,.nilIface,.nilIface] 238)) :
  BrAt ⟨#[]⟩ (fun _=>.nil) b (fun _=>.nilIface) (fun _ _=>False) (fun x=>x=b) W:=
 ⟨rfl,h,fun i _=>⟨rfl,fun e=>e,fun _ e=>e.elim⟩,fun _ _ _ _ _ _ e=>e.elim,fun x e=>by rw[e];exact h.lt⟩
theorem AddP.br{D:Nat->Prop}{W w':vW}{b:Nat}{P:PA}(h:PaAt P (brV b) (Grow D W w') w')(k:jaf D W w')(hl:∀ x,D x->x < W.heap.size):PaO P (brV b) (Grow D W w') w':=⟨h,jeN hl k⟩
theorem jsO(W:vW)(D:Nat->Prop)(q v u:vB)(b:Nat)(o:Blk W b (.cells #[.string q,.string v] 231)):vQ 237 #[.pointer (some ⟨b,0,none⟩),.string q,.string u] W (PaTo D W (.leaf q u)):=by
 have A:=o.cell (i:=0) (v:=.string q) vF;clear o;have z:(q.toList == q.toList)=true:=by simp
 unfold vQ;go_in;go_wp2_with fail
 go_ret;have o:=Blk.new W (.cells #[.string q,.string u] 231);exact PaTo.mk1 ⟨_,rfl,.inr ⟨bL _,o.lt⟩,o⟩ (((ExtR W).alloc _).mono (fun _ _ e=>e.elim))
theorem jwx(q p v:vB):(∀ x t,(q.extract (jal q p) q.size).data.toList=x :: t->PA.isNil ((fun _=>PA.nil) x.toNat)=true)/\∃ v1 ks1,addK (.br ⟨#[]⟩ fun _=>.nil) (q.extract (jal q p) q.size) v=.br v1 ks1/\∀ x t,(p.extract (jal q p) p.size).data.toList=x :: t->(ks1 x.toNat).isNil=true:=by
 refine⟨fun _ _ _=>rfl,?_⟩
 obtain⟨J,K,Z,hb,o,z,A⟩:=jcN q.data.toList p.data.toList
 have e:(q.extract (jal q p) q.size).data.toList=J:=by rw[jdS,o];rfl
 have E:(p.extract (jal q p) p.size).data.toList=K:=by rw[jdS,z];rfl
 obtain⟨O,Q⟩:∃ x,x=q.extract (jal q p) q.size:=⟨_,rfl⟩
 rw[<-Q]at e ⊢;rw[jcS]
 by_cases h0:O.size=0
 ·rw[if_pos h0];exact⟨_,_,rfl,fun _ _ _=>rfl⟩
 ·rw[if_neg h0]
  refine⟨_,_,rfl,fun y t X=>?_⟩
  obtain⟨x,s,H⟩:=jcp h0
  unfold setK;rw[(jbL H).1,if_neg (jdc (Ne.symm (A x s y t (by rw[<-e,H]) (by rw[<-E,X]))))];rfl
theorem jqN(W:vW)(D:Nat->Prop)(q v p u:vB)(b:Nat)(hB:Blk W b (.cells #[.string q,.string v] 231))(hne:p≠q)(hq:jaB q=true)(hp:jaB p=true)(hqs:q.size<=900000)(hps:p.size<=900000) :
  vQ 237 #[.pointer (some ⟨b,0,none⟩),.string p,.string u] W (PaTo D W (putP (.leaf q v) p u)):=by
 have q0:=hB.cell (i:=0) (v:=.string q) vF;have Q0:=Hd q0;have Q1:=Hd (hB.cell (i:=1) (v:=.string v) vF);have HB:=Hd hB;have d3:(p.toList == q.toList)=false:=by rw[jd6];exact decide_eq_false hne
 obtain⟨c1,c2⟩:=je8 q p
 have Q:putP (.leaf q v) p u=jci (p.extract 0 (jal q p)) (addK (addK (.br ⟨#[]⟩ fun _=>.nil) (q.extract (jal q p) q.size) v) (p.extract (jal q p) p.size) u):=by
  show (if p=q then PA.leaf p u else _)=_;rw[if_neg hne]
 have X:=jwx q p v;have Z:=fun w=>jfA w q p vO vO
 obtain⟨m,hm⟩:=vE (jal q p)
 rw[<-hm]at c1 c2 Q X Z;rw[Q];have b0:(q.extract m q.size).size<=900000:=by rw[ja3];omega
 have b1:(p.extract m p.size).size<=900000:=by rw[ja3];omega
 have b2:(p.extract 0 m).size<=900000:=by rw[cL];omega
 have b3:jaB (q.extract m q.size)=true:=jbv hq _ _;have b4:jaB (p.extract m p.size)=true:=jbv hp _ _
 obtain⟨E,v1,a1,e1,H⟩:=X
 have b5:Dp (addK (.br v1 a1) (p.extract m p.size) u) 1000000:=jiu (by rw[<-e1];exact jiu (jhW _ _) vO _) vO _;have b6:(addK (.br v1 a1) (p.extract m p.size) u).isNil=false:=by rw[jcS];split <;> rfl
 rw[e1];have HF:=Hd (bB (bB E (bB e1 H)) (bB b0 (bB b1 (bB b2 (bB b3 b4)))));have b7:=Hd (bB b5 b6);have HC:=Hd Z;have d4:(m:Int)<=(q.size:Int):=vO
 have d5:(m:Int)<=(p.size:Int):=vO
 clear hB hne hq hp Q hm E H e1 b5 b6 b0 b1 b2 b3 b4 Z;go_enter Tryz.func237,Tryz.ntmps237;go_wp2_with fail
 refine (HC.o _).mono ?_;rintro e w1 ⟨rfl,n,rfl⟩;go_wp2_with fail
 obtain⟨A,a2⟩:=vE W.heap.size
 obtain⟨W2,a3⟩:=vE ((W.drewN n).alloc (.cells #[.string ⟨#[]⟩,.nilIface,.nilIface,.nilIface,.nilIface,.nilIface,.nilIface,.nilIface,.nilIface,.nilIface,.nilIface,.nilIface,.nilIface,.nilIface,.nilIface,.nilIface,.nilIface] 238))
 have b8:Ext W W2:=by rw[a3];exact ((ExtR W).drewN n).alloc _
 have b9:BrAt ⟨#[]⟩ (fun _=>.nil) A (fun _=>.nilIface) (fun _ _=>False) (fun x=>x=A) W2:=by rw[a3,a2];exact jwJ (Blk.new (W.drewN n) _)
 have c0:W.heap.size<=A:=by rw[a2];exact bL _
 have a4:=Hd b8;have c3:=Hd b9;have a8:=Hd c0;have c4:=Hd (show ¬ W.heap.size<=b from by have:=HB.o.lt;omega);rw[<-a3, <-a2];clear a2 a3 b8 b9 c0;refine jaC [0,1,2,3,4,5,6,7,8,9,10,11] [11] Ext (jaf (fun z=>W.heap.size<=z)) ExtR ExtT (fun x y z h k=>jaf.trans h k) (fun x y h=>h.mono (fun _ _ h=>h.elim)) vY vY vY ?_;iterate 2 refine vD ?_
 refine qDV _ ((.pointer (some ⟨b,0,none⟩))) rfl (fun w1 _=>by kernel_rfl) ?_;refine vS ?_
 refine vD ?_
 refine qDL ⟨b,0,none⟩ _ rfl (fun w1 h1=>jaD (fun w=>by kernel_rfl) (jar (jaa Q0.o a4.o) (((jaf.refl (fun z=>W.heap.size<=z) W2).drew).trans h1) (by exact c4.o))) ?_;refine vS ?_;iterate 3 refine vD ?_
 refine qDV _ ((.pointer (some ⟨b,0,none⟩))) rfl (fun w1 _=>by kernel_rfl) ?_;refine vS ?_
 refine vD ?_
 refine qDL ⟨b,1,none⟩ _ rfl (fun w1 h1=>jaD (fun w=>by kernel_rfl) (jar (jaa Q1.o a4.o) (((jaf.refl (fun z=>W.heap.size<=z) W2).drew).trans h1) (by exact c4.o))) ?_;refine vS ?_;refine qDH _ rfl (fun wb hb K hK=>?_);have kb:Ext W2 wb:=(jah _).trans hb
 obtain⟨E,e1,H⟩:=HF.o.1
 refine jbK (jaq (vX 238) vY) ((jko wb (fun x=>x=A) ⟨#[]⟩ (fun _=>.nil) A ((c3.o.keeps kb (fun _ _ e=>e)).pa) (q.extract m q.size) v HF.o.2.2.2.2.1 HF.o.2.1 E).mono ?_);rintro e w3 ⟨rfl,J,O⟩
 refine⟨_,rfl,hK _ _ (O.mono (fun z _ e=>by have e:z=A:=e;rw[e];exact a8.o)) ?_⟩
 rw[e1]at J;have HS:=Hd (bB kb (bB J O));clear hK K hb kb J O e1;refine vS ?_;refine qDE (fun wc hc=>?_)
 obtain⟨kb,J,O⟩:=HS.o
 have kc:jaf (fun x=>x=A) wb wc:=O.trans (hc.mono (fun _ _ e=>e.elim));have c5:PaAt (.br v1 a1) (brV A) (Grow (fun x=>x=A) wb wc) wc:=(J.keeps hc _ _ _ (fun _ _ e=>e)).mono (fun z hz=>hz.imp id (fun e=>⟨e.1,bQ e.2 hc.size⟩));have c6:=AddP.br c5 kc (fun x e=>by have e:x=A:=e;rw[e];exact bQ c3.o.blk.lt kb.size);have c7:Ext W wc:=(a4.o.trans kb).trans' kc (fun x hx e=>by have e:x=A:=e;have:=a8.o;omega);have a5:=Hd (bB c6 c7);have c8:Hid (∀ x,Grow (fun x=>x=A) wb wc x->W.heap.size<=x):=(fun x hx=>hx.elim (fun e=>by rw[e];exact a8.o) (fun e=>bK (bK a4.o.size kb.size) e.1));clear hc kb J O kc c5 c6 c7 HS;go_wp2_with fail
 obtain⟨E,e1,H⟩:=HF.o.1
 refine (jko wc _ v1 a1 A a5.o.1 (p.extract m p.size) u HF.o.2.2.2.2.2 HF.o.2.2.1 H).mono ?_;rintro e w4 ⟨rfl,c9,a9⟩;have d0:=AddP.br c9 a9 a5.o.1.lt;have d1:Ext W w4:=a5.o.2.trans' a9 (fun x hx e=>by have:=c8.o x e;omega);have d2:Hid (∀ x,Grow (Grow (fun x=>x=A) wb wc) wc w4 x->W.heap.size<=x):=fun x hx=>hx.elim (c8.o x) (fun e=>bK a5.o.2.size e.1);have a6:=Hd (bB d0 d1);clear c9 a9 d0 d1 e1 E H;unfold brV;go_wp2_with fail
 refine (pj_c w4 _ (p.extract 0 m) _ (brV A) a6.o.1 b7.o.2 (by have:=HF.o.2.2.2.1;omega) b7.o.1).mono ?_;rintro e w5 ⟨v5,rfl,a7,a0⟩;have HZ:=Hd (bB a7 a0);clear a7 a0;go_wp2_with fail
 go_ret
 obtain⟨a7,a0⟩:=HZ.o
 exact PaTo.mk1 (a7.mono (fun x hx=>.inr ⟨hx.elim (d2.o x) (fun e=>bK a6.o.2.size e.1),(jeN a6.o.1.lt a0) x hx⟩)) ((a6.o.2.trans a0).mono (fun _ _ e=>e.elim))
theorem BrAt.give{u:vB}{ks:Nat->PA}{b:Nat}{vk:Nat->vV}{Dk:Nat->Nat->Prop}{D E:Nat->Prop}{W:vW}(h:BrAt u ks b vk Dk D W){i:Nat}(hi:i < 16){P:PA}{v:vV}(hP:PaAt P v E W)(hE:∀ x,E x->¬ D x/\x < W.heap.size) :
  BrAt u (setK ks i P) b (setV vk i v) (fun j=>if j=i then E else Dk j) (fun x=>D x\/E x) (W.setCell ⟨b,1+i,none⟩ v):=by
 have K:=jaf.oneSet W ⟨b,1+i,none⟩ v;have Q:=h.blk.set_same (i:=1+i) v;rw[jrK u vk hi]at Q
 refine⟨.inl h.mem,Q,fun j z=>?_,fun j l z X H x o A=>?_,fun x o=>?_⟩
 ·by_cases e:j=i
  ·subst e
   simp only[if_pos,jco];rw[show setV vk j v j=v from if_pos rfl]
   refine⟨hP.keeps K _ _ _ (fun x o e=>?_),fun e=>(hE b e).1 h.mem,fun x o=>.inr o⟩
   have e:x=b:=e;rw[e]at o;exact (hE b o).1 h.mem
  ·simp only[if_neg e]
   rw[jeX _ _ e,show setV vk i v j=vk j from if_neg e]
   refine⟨(h.kid j z).1.keeps K _ _ _ (fun x o e=>?_),(h.kid j z).2.1,fun x o=>.inl ((h.kid j z).2.2 x o)⟩
   have e:x=b:=e;rw[e]at o;exact (h.kid j z).2.1 o
 ·by_cases e:j=i
  ·subst e
   have O:E x:=by simpa using o
   have J:Dk l x:=by simpa [Ne.symm H]using A
   exact (hE x O).1 ((h.kid l X).2.2 x J)
  ·have O:Dk j x:=by simpa [e]using o
   by_cases e2:l=i
   ·subst e2
    have J:E x:=by simpa using A
    exact (hE x J).1 ((h.kid j z).2.2 x O)
   ·have J:Dk l x:=by simpa [e2]using A
    exact h.apart j l z X H x O J
 ·rcases o with o | o
  ·exact bQ (h.lt x o) K.size
  ·exact bQ (hE x o).2 K.size
theorem jxS{q:vB}{m:Nat}(h:m < q.size):jat (q.extract m q.size)=(q[m]).toNat:=by
 unfold jat;have e:m < q.data.toList.length:=by rw[jaT];exact h
 rw[jdS,fY e];rfl
theorem jxH(W:vW)(D:Nat->Prop)(q:vB)(n:PA)(T:TypeId)(x:vV)(Dn:Nat->Prop)(b:Nat)(hB:Blk W b (.cells #[.string q,.iface T x] 234))(hv:PaAt n (.iface T x) Dn W)(hbn:¬ Dn b)(hD:∀ x,Dn x->D x/\x < W.heap.size)(p u:vB)(hq:jaB q=true)(hp:jaB p=true)(hqs:q.size<=900000)(hps:p.size<=900000)(X:Dp n 900000)(hk:PutC n)(hnil:n.isNil=false)(hf:jal q p=q.size) :
  vQ 243 #[.pointer (some ⟨b,0,none⟩),.string p,.string u] W (PaTo D W (jci q (putP n (p.extract q.size p.size) u))):=by
 have q0:=hB.cell (i:=0) (v:=.string q) vF;have q1:=hB.cell (i:=1) (v:=.iface T x) vF;have Q0:=Hd q0;have Q1:=Hd q1;have HB:=Hd hB;have HV:=Hd hv;have HD:Hid (∀ z,Dn z->D z/\z < W.heap.size):=hD
 obtain⟨c1,c2⟩:=je8 q p
 have J:=fun w=>jfA w q p vO vO;rw[hf]at c1 c2 J;have HC:=Hd J;have a9:=hB.lt;have a5:=Hd (show ¬(Dn b\/W.heap.size<=b)from fun e=>e.elim hbn (fun e=>by omega));have a1:jaB (p.extract q.size p.size)=true:=jbv hp _ _;have a3:(p.extract q.size p.size).size<=900000:=by rw[ja3];omega
 have HM:=Hd hv.meth;have a0:=Hd (show ∀ O,Ext W O->vQ (jkR n) #[x,.string (p.extract q.size p.size),.string u] O (PaTo Dn O (putP n (p.extract q.size p.size) u))from fun O e=>hk O T x Dn _ _ ⟨hv.keeps e _ _ _ (fun _ _ e=>e),fun z A=>bQ (hD z A).2 e.size⟩ a3 a1 X);have b0:Hid (Dp (putP n (p.extract q.size p.size) u) 1000000):=(jcg _ _ _ (joK n 900000 _ u X a3) vO);have b2:(q.size:Int)<=(p.size:Int):=vO
 have b3:((q.size:Int) ==(q.size:Int))=true:=by simp
 clear hB hv hbn hD hq hp X hk hf a1 a3 J a9;go_enter Tryz.func243,Tryz.ntmps243;go_wp2_with fail
 refine (HC.o _).mono ?_;rintro e w1 ⟨rfl,k,rfl⟩;have a6:=Hd (show jaf (fun z=>Dn z\/W.heap.size<=z) W ((W.drewN k).drew)from((jaf.refl _ W).drewN k).drew);go_wp2_with fail
 refine jaC [0,1,2,3,4,5,6,7,8,9,10,11,12,13,14,15,16] [14,15] Ext (jaf (fun z=>Dn z\/W.heap.size<=z)) ExtR ExtT (fun x y z h k=>jaf.trans h k) (fun x y h=>h.mono (fun _ _ h=>h.elim)) vY vY vY ?_
 refine vD ?_
 refine qDV _ ((.pointer (some ⟨b,0,none⟩))) rfl (fun w1 _=>by kernel_rfl) ?_;refine vS ?_
 refine vD ?_
 refine qDL ⟨b,0,none⟩ _ rfl (fun w1 h1=>jaD (fun w=>by kernel_rfl) (jar Q0.o (a6.o.trans h1) (by exact a5.o))) ?_;refine vS ?_
 refine vD ?_
 refine qDV _ ((.pointer (some ⟨b,0,none⟩))) rfl (fun w1 _=>by kernel_rfl) ?_;refine vS ?_
 refine vD ?_
 refine qDL ⟨b,1,none⟩ _ rfl (fun w1 h1=>jaD (fun w=>by kernel_rfl) (jar Q1.o (a6.o.trans h1) (by exact a5.o))) ?_;refine vS ?_;iterate 4 refine vD ?_
 refine qDV _ (.iface T x) rfl (fun w1 _=>by kernel_rfl) ?_;refine vS ?_
 refine vD ?_
 refine qDH _ rfl (fun O hb K hK=>?_);have Z:Ext W O:=(((ExtR W).drewN k).drew).trans hb;refine jbK (jcL (f:=jkR n) (vs:=#[.string (p.extract q.size p.size),.string u]) rfl (HM.o.put _) (jiz _) vY) ?_;refine (a0.o O Z).mono ?_;rintro e w2 ⟨v2,rfl,Q,E⟩
 refine⟨v2,rfl,hK _ _ (E.mono (fun z _ A=>.inl A)) ?_⟩
 have HS:=Hd (bB Z (bB Q E));clear hK K hb Z Q E;refine vS ?_;refine qDH _ rfl (fun wc hc K hK=>?_)
 obtain⟨Z,Q,E⟩:=HS.o
 have kc:jaf Dn O wc:=E.trans (hc.mono (fun _ _ e=>e.elim));have a7:PaAt (putP n (p.extract q.size p.size) u) v2 (Grow Dn O wc) wc:=(Q.keeps hc _ _ _ (fun _ _ e=>e)).mono (fun z A=>A.imp id (fun e=>⟨e.1,bQ e.2 hc.size⟩));have a4:=PaTo.own a7 kc (fun z A=>bQ (HD.o z A).2 Z.size);refine jbK (jaq (vX 239) vY) ((pj_c wc _ q _ v2 a4 (ji0 _ _ _) vO b0.o).mono ?_);rintro e w5 ⟨v5,rfl,a2,H⟩
 refine⟨v5,rfl,hK _ _ (H.mono (fun _ _ e=>e.elim)) ?_⟩
 have HZ:=Hd (bB kc (bB a2 (bB H (jeN a4.lt H))));clear hK K hc Z Q E kc a7 a4 a2 H;refine vS ?_
 refine vD ?_
 refine qDE (fun wd X=>?_);have HQ:=Hd X;clear X;go_wp2_with fail
 go_ret
 obtain⟨Z,_,_⟩:=HS.o
 obtain⟨kc,a2,H,b1⟩:=HZ.o
 have X:=HQ.o;refine PaTo.mk1 ((a2.keeps X _ _ _ (fun _ _ e=>e)).mono (fun z A=>?_)) (((Z.mono (fun _ _ e=>e.elim):jaf D W O).trans (kc.mono (fun z _ A=>(HD.o z A).1))).trans ((H.trans X).mono (fun _ _ e=>e.elim)));have a8:=bQ (b1 z A) X.size;rcases A with (A | A) | A
 ·exact .inl (HD.o z A).1
 ·exact .inr ⟨bK Z.size A.1,a8⟩
 ·exact .inr ⟨bK (bK Z.size kc.size) A.1,a8⟩
theorem jvh(q p:vB)(n:PA)(h:jal q p < q.size):∀ x t,(p.extract (jal q p) p.size).data.toList=x :: t->(setK (fun _=>.nil) (jat (q.extract (jal q p) q.size)) (jci (q.extract (jal q p+1) q.size) n) x.toNat).isNil=true:=by
 obtain⟨J,K,X,hb,e,o,z⟩:=jcN q.data.toList p.data.toList
 have A:(q.extract (jal q p) q.size).data.toList=J:=by rw[jdS,e];rfl
 have E:(p.extract (jal q p) p.size).data.toList=K:=by rw[jdS,o];rfl
 have O:(q.extract (jal q p) q.size).size≠0:=by rw[ja3];omega
 intro y t Q
 obtain⟨x,s,H⟩:=jcp O
 unfold setK;rw[(jbL H).1,if_neg (jdc (Ne.symm (z x s y t (by rw[<-A,H]) (by rw[<-E,Q]))))];rfl
theorem jvf(W:vW)(D:Nat->Prop)(q:vB)(n:PA)(T:TypeId)(x:vV)(Dn:Nat->Prop)(b:Nat)(hB:Blk W b (.cells #[.string q,.iface T x] 234))(hv:PaAt n (.iface T x) Dn W)(hbn:¬ Dn b)(hD:∀ x,Dn x->D x/\x < W.heap.size)(p u:vB)(hq:jaB q=true)(hp:jaB p=true)(hqs:q.size<=900000)(hps:p.size<=900000)(hd:Dp n (900000 - q.size))(hnil:n.isNil=false)(hf:jal q p≠q.size) :
  vQ 243 #[.pointer (some ⟨b,0,none⟩),.string p,.string u] W (PaTo D W (jci (p.extract 0 (jal q p)) (addK (.br ⟨#[]⟩ (setK (fun _=>.nil) (jat (q.extract (jal q p) q.size)) (jci (q.extract (jal q p+1) q.size) n))) (p.extract (jal q p) p.size) u))):=by
 have q0:=hB.cell (i:=0) (v:=.string q) vF;have q1:=hB.cell (i:=1) (v:=.iface T x) vF;have Q0:=Hd q0;have Q1:=Hd q1;have HB:=Hd hB;have HV:=Hd hv;have HD:Hid (∀ z,Dn z->D z/\z < W.heap.size):=hD
 obtain⟨c1,c2⟩:=je8 q p
 have X:=fun w=>jfA w q p vO vO;have H:=jvh q p n (show jal q p < q.size by omega)
 obtain⟨m,hm⟩:=vE (jal q p)
 rw[<-hm]at c1 c2 X hf H ⊢;have HC:=Hd X;have d4:=hB.lt;have b2:=Hd (show ¬ W.heap.size<=b from by omega);have b8:m < q.size:=vO
 have b9:jat (q.extract m q.size) < 16:=jdV (jbv hq _ _) (by rw[ja3];omega);have b3:=jxS b8;have b4:=Hd (bB b9 b3);have c0:=Hd (bB (jbv hp m p.size) (show (p.extract m p.size).size<=900000 by rw[ja3];omega));have a5:=Hd (bB hnil (bB (show (q.extract (m+1) q.size).size<=900000 by rw[ja3];omega) hd));have c3:Dp (jci (q.extract (m+1) q.size) n) (900000 - m - 1):=jf8 (jcg _ _ _ hd (by rw[ja3];omega)) (by rw[ja3];omega);have c4:Dp (addK (.br ⟨#[]⟩ (setK (fun _=>.nil) (jat (q.extract m q.size)) (jci (q.extract (m+1) q.size) n))) (p.extract m p.size) u) (900000 - m):=jiu (jiw (jhW ⟨#[]⟩ _) vO c3 _) (by rw[ja3];omega) _;have c5:(addK (.br ⟨#[]⟩ (setK (fun _=>.nil) (jat (q.extract m q.size)) (jci (q.extract (m+1) q.size) n))) (p.extract m p.size) u).isNil=false:=by rw[jcS];split <;> rfl
 have c6:=Hd (bB c4 c5);have d5:=Hd H;have a3:(p.extract 0 m).size<=900000:=by rw[cL];omega
 have d6:=Hd a3;have d7:(m:Int)<=(q.size:Int):=vO
 have d8:(m:Int)<=(p.size:Int):=vO
 have d9:(m:Int) < (q.size:Int):=vO
 have e0:(m:Int)+1<=(q.size:Int):=vO
 have e1:((q[m]'b8).toNat:Int) < 16:=by rw[<-b3];omega
 have e2:((m:Int) ==(q.size:Int))=false:=by simp;omega
 clear hB hv hbn hD hq hp hd hf X d4 H b9 b3 c3 c4 c5 hnil hm a3;go_enter Tryz.func243,Tryz.ntmps243;go_wp2_with fail
 refine (HC.o _).mono ?_;rintro e w1 ⟨rfl,k,rfl⟩;go_wp2_with fail
 obtain⟨E,a6⟩:=vE W.heap.size
 obtain⟨W2,a7⟩:=vE ((W.drewN k).alloc (.cells #[.string ⟨#[]⟩,.nilIface,.nilIface,.nilIface,.nilIface,.nilIface,.nilIface,.nilIface,.nilIface,.nilIface,.nilIface,.nilIface,.nilIface,.nilIface,.nilIface,.nilIface,.nilIface] 238))
 have c7:Ext W W2:=by rw[a7];exact ((ExtR W).drewN k).alloc _
 have c8:BrAt ⟨#[]⟩ (fun _=>.nil) E (fun _=>.nilIface) (fun _ _=>False) (fun x=>x=E) W2:=by rw[a7,a6];exact jwJ (Blk.new (W.drewN k) _)
 have c9:W.heap.size<=E:=by rw[a6];exact bL _
 have J:=Hd c7;have a8:=Hd c8;have a9:=Hd c9;rw[<-a7, <-a6];clear a6 a7 c7 c8 c9;refine jaC [0,1,2,3,4,5,6,7,8,9,10,11,12,13,14,15,16,17,19,20,18,21,22] [18,22] Ext (jaf (fun z=>W.heap.size<=z)) ExtR ExtT (fun x y z h k=>jaf.trans h k) (fun x y h=>h.mono (fun _ _ h=>h.elim)) vY vY vY ?_;iterate 2 refine vD ?_
 refine qDV _ ((.pointer (some ⟨b,0,none⟩))) rfl (fun w1 _=>by kernel_rfl) ?_;refine vS ?_
 refine vD ?_
 refine qDL ⟨b,0,none⟩ _ rfl (fun w1 h1=>jaD (fun w=>by kernel_rfl) (jar (jaa Q0.o J.o) (((jaf.refl (fun z=>W.heap.size<=z) W2).drew).trans h1) (by exact b2.o))) ?_;refine vS ?_;iterate 3 refine vD ?_
 refine qDV _ ((.pointer (some ⟨b,0,none⟩))) rfl (fun w1 _=>by kernel_rfl) ?_;refine vS ?_
 refine vD ?_
 refine qDL ⟨b,0,none⟩ _ rfl (fun w1 h1=>jaD (fun w=>by kernel_rfl) (jar (jaa Q0.o J.o) (((jaf.refl (fun z=>W.heap.size<=z) W2).drew).trans h1) (by exact b2.o))) ?_;refine vS ?_;iterate 4 refine vD ?_
 refine qDV _ ((.pointer (some ⟨b,0,none⟩))) rfl (fun w1 _=>by kernel_rfl) ?_;refine vS ?_
 refine vD ?_
 refine qDL ⟨b,1,none⟩ _ rfl (fun w1 h1=>jaD (fun w=>by kernel_rfl) (jar (jaa Q1.o J.o) (((jaf.refl (fun z=>W.heap.size<=z) W2).drew).trans h1) (by exact b2.o))) ?_;refine vS ?_;refine qDV _ ((.pointer (some ⟨E,0,none⟩))) rfl (fun w1 _=>by kernel_rfl) ?_;refine vS ?_
 refine vD ?_
 refine qDH _ rfl (fun wb hb K hK=>?_);have kb:Ext W2 wb:=(jah _).trans hb;have kw:Ext W wb:=J.o.trans kb;refine jbK (jaq (vX 239) vY) ((pj_c wb Dn (q.extract (m+1) q.size) n (.iface T x) ⟨HV.o.keeps kw _ _ _ (fun _ _ e=>e),fun z A=>bQ (HD.o z A).2 kw.size⟩ a5.o.1 (by have:=a5.o.2.1;omega) (jcg _ _ _ a5.o.2.2 vO)).mono ?_);rintro e w3 ⟨v3,rfl,Z,O⟩
 refine⟨v3,rfl,hK _ _ (O.mono (fun _ _ e=>e.elim)) ?_⟩
 have HS:=Hd (bB kb (bB Z O));clear hK K hb kb Z O kw;refine vS ?_
 refine vD ?_
 refine qDH _ rfl (fun wc hc K hK=>?_)
 obtain⟨kb,Z,O⟩:=HS.o
 have b5:=Z.keeps hc _ _ _ (fun _ _ e=>e);have kc:Ext W2 wc:=(kb.trans O).trans hc
 obtain⟨T3,x3,rfl⟩:=b5.form (jdI a5.o.1)
 have a0:∀ z,Grow Dn wb w3 z->¬ z=E/\z < wc.heap.size:=fun z A=>by
  have h1:=a8.o.lt E rfl;have h2:=a9.o;have h3:=kb.size;have h4:=O.size;have h5:=hc.size;have h6:=J.o.size;rcases A with A | A
  ·have:=(HD.o z A).2;omega
  ·have:=A.1;have:=A.2;omega
 have hg:=(a8.o.keeps kc (fun _ _ e=>e)).give b4.o.1 b5 a0
 obtain⟨old,q7⟩:∃ v,wc.cell? ⟨E,1+jat (q.extract m q.size),none⟩=some v:=⟨_,(a8.o.keeps kc (fun _ _ e=>e)).blk.cellL (bA (by rw[jg9];have:=b4.o.1;omega))⟩
 have f7:wc.frozen? ⟨E,1+jat (q.extract m q.size),none⟩=false:=(a8.o.keeps kc (fun _ _ e=>e)).blk.frozen
 obtain⟨WW,a1⟩:=vE (wc.setCell ⟨E,1+jat (q.extract m q.size),none⟩ (.iface T3 x3))
 rw[<-a1]at hg;have Q:jaf (fun z=>z=E) wc WW:=by rw[a1];exact jaf.oneSet wc ⟨E,1+jat (q.extract m q.size),none⟩ (.iface T3 x3)
 have HG:=Hd (bB hg (bB Q (bB kc (bB a0 (show ∀ z,Grow Dn wb w3 z->D z\/W.heap.size<=z from fun z A=>A.elim (fun e=>.inl (HD.o z e).1) (fun e=>.inr (bK (bK J.o.size kb.size) e.1)))))));rw[b4.o.2]at q7 f7 a1;clear kb Z O b5 kc a0 hg hc;go_simp;rw[<-a1];refine hK _ _ (Q.mono (fun z _ e=>by have e:z=E:=e;rw[e];exact a9.o)) ?_;clear hK K q7 f7 a1 Q;refine qDE (fun wd hd=>?_)
 obtain⟨hg,Q,kc,a0,d0⟩:=HG.o
 have d1:=hg.keeps hd (fun _ _ e=>e);have HX:=Hd (bB d1 (show Ext W wd from((J.o.trans kc).trans' Q (fun z A e=>by have e:z=E:=e;have:=a9.o;omega)).trans hd));have HY:Hid (∀ z,(z=E\/Grow Dn wb w3 z)->D z\/W.heap.size<=z):=(fun z A=>A.elim (fun e=>.inr (by rw[e];exact a9.o)) (d0 z));clear hg Q kc a0 d0 d1 hd;go_wp2_with fail
 refine (jko wd _ ⟨#[]⟩ _ E HX.o.1.pa (p.extract m p.size) u c0.o.1 c0.o.2 d5.o).mono ?_;rintro e w4 ⟨rfl,d2,b6⟩;have d3:=AddP.br d2 b6 HX.o.1.lt;have a4:jaf D W w4:=(HX.o.2.mono (fun _ _ e=>e.elim)).trans' b6 (fun z A e=>by
  rcases HY.o z e with h | h
  ·exact h
  ·omega)
 have b0:=Hd (bB d3 a4);clear d2 b6 d3 a4;unfold brV;go_wp2_with fail
 refine (pj_c w4 _ (p.extract 0 m) _ (brV E) b0.o.1 c6.o.2 (by have:=d6.o;omega) (jcg _ _ _ c6.o.1 vO)).mono ?_;rintro e w5 ⟨v5,rfl,b1,a2⟩;have HZ:=Hd (bB b1 a2);clear b1 a2;go_wp2_with fail
 go_ret
 obtain⟨b1,a2⟩:=HZ.o
 refine PaTo.mk1 (b1.mono (fun z A=>?_)) (b0.o.2.trans (a2.mono (fun _ _ e=>e.elim)));have b7:=jeN b0.o.1.lt a2 z A;rcases A with (A | A) | A
 ·rcases HY.o z A with h | h
  ·exact .inl h
  ·exact .inr ⟨h,b7⟩
 ·exact .inr ⟨bK HX.o.2.size A.1,b7⟩
 ·exact .inr ⟨bK b0.o.2.size A.1,b7⟩
end
def VaP:PA->Prop
 | .nil=>True
 | .no=>True
 | .leaf q _=>jaB q=true
 | .ext q n=>jaB q=true/\VaP n
 | .br _ ks=>∀ i,VaP (ks i)
theorem jrR:∀ (P:PA),CanP P->VaP P
 | .nil,h=>h.elim
 | .no,h=>h.elim
 | .leaf q v,h=>h.1
 | .ext q n,h=>⟨h.2.1,jrR n h.2.2.2⟩
 | .br v ks,h=>fun i=>by
  cases hn:(ks i).isNil with
  | true=>rw[jbE hn];trivial
  | false=>exact jrR (ks i) (h.2.1 i hn)
theorem jn1:∀ (P:PA),VaP P->PutC P
 | .nil,_=>fun W T x D p u h _ _ _=>by cases h.at'
 | .no,_=>fun W T x D p u h _ _ _=>by
  have e:Value.iface T x=noV:=h.at';unfold noV at e;injection e with e1 e2;subst e1 e2;exact jtf W D p u
 | .leaf q v,hv=>fun W T x D p u h E H o=>by
  obtain⟨b,e,h1,J⟩:=h.at'
  unfold jjo at e;injection e with e1 e2;subst e1 e2
  by_cases hpq:p=q
  ·subst hpq
   show Calls _ _ _ W (PaTo D W (putP (.leaf p v) p u));unfold putP;rw[if_pos rfl];exact jsO W D p v u b J
  ·exact jqN W D q v p u b J hpq hv H o E
 | .ext q n,hv=>fun W T x D p u h E H o=>by
  obtain⟨b,Z,x',O,e,h1,J,Q,h4,h5⟩:=h.at'
  unfold extV at e;injection e with e1 e2;subst e1 e2;have A:n.isNil=false:=by
   cases n with
   | nil=>cases Q
   | _=>rfl
  have K:∀ z,O z->D z/\z < W.heap.size:=fun z hz=>⟨h5 z hz,h.lt z (h5 z hz)⟩
  by_cases hf:jal q p=q.size
  ·have:=jxH W D q n Z x' O b J Q h4 K p u hv.1 H o.1 E (jcg _ _ _ o.2 vO) (jn1 n hv.2) A hf
   show Calls _ _ _ W (PaTo D W (putP (.ext q n) p u));unfold putP;rw[if_pos hf,hf];exact this
  ·have:=jvf W D q n Z x' O b J Q h4 K p u hv.1 H o.1 E o.2 A hf
   show Calls _ _ _ W (PaTo D W (putP (.ext q n) p u));unfold putP;rw[if_neg hf];exact this
 | .br v ks,hv=>fun W T x D p u h E H o=>by
  obtain⟨b,vk,Dk,e,_⟩:=h.at'
  have e0:=e;unfold brV at e;injection e with e1 e2;subst e1 e2;show Calls _ _ _ W (PaTo D W (putP (.br v ks) p u));unfold putP
  by_cases h0:p.size=0
  ·rw[if_pos h0,jbq h0]
   exact (joy W D v u ks b h).mono fun e w' h=>h.2
  ·rw[if_neg h0]
   cases hk:(ks (jat p)).isNil with
   | true =>
    rw[jbE hk];exact (jox W D v u ks b h p h0 H E hk).mono fun e w' h=>h.2
   | false =>
    have X:=o (jat p) hk;exact (juP W D v u ks b h p h0 H E hk (jcg _ _ _ X.2 vO) (jn1 (ks (jat p)) (hv _))).mono fun e w' h=>h.2
section
attribute [local go_sem] Oper.semAt_some
def cutV(s p:vB):vV:=if preB p s then .tuple #[.string (s.extract p.size s.size),.bool true]else .tuple #[.string s,.bool false]
theorem jlO(w:vW)(s p:vB)(hs:s.size<=1000000)(hp:p.size<=1000000):vQ 245 #[.string s,.string p] w fun e w'=>e=.returned (cutV s p)/\w'=w:=by
 unfold cutV;cases hb:preB p s with
 | true =>
  have A:=jk1 hb;have E:(p.size:Int)<=(s.size:Int):=vO
  have z:=Hd hb;clear hb;unfold vQ;go_in;go_wp2_with fail
  refine (jpy w s p hs hp).mono ?_;rintro e w1 ⟨rfl,rfl⟩;rw[z.o];go_wp2_with fail
  go_ret2
  exact⟨rfl,rfl⟩
 | false =>
  have z:=Hd hb;clear hb;unfold vQ;go_in;go_wp2_with fail
  refine (jpy w s p hs hp).mono ?_;rintro e w1 ⟨rfl,rfl⟩;rw[z.o];go_wp2_with fail
  go_ret2
  exact⟨rfl,rfl⟩
theorem jin(w:vW)(s p:vB)(hs:s.size<=1000000)(hp:p.size<=1000000):vQ 244 #[.string s,.string p] w fun e w'=>e=.returned (cutV s p)/\w'=w:=by
 have H:=Hd (jlO w s p hs hp);unfold cutV at *;cases hb:preB p s with
 | true =>
  rw[hb,if_pos rfl]at H;rw[if_pos rfl];clear hb;unfold vQ;go_in;go_wp2_with fail
  refine H.o.mono ?_;rintro e w1 ⟨rfl,rfl⟩;go_wp2_with fail
  go_ret2
  exact⟨rfl,rfl⟩
 | false =>
  rw[hb,if_neg ff]at H;rw[if_neg ff];clear hb;unfold vQ;go_in;go_wp2_with fail
  refine H.o.mono ?_;rintro e w1 ⟨rfl,rfl⟩;go_wp2_with fail
  go_ret2
  exact⟨rfl,rfl⟩
def jut(P:PA):Prop:=∀ (W:vW) (T:TypeId) (x:vV) (D:Nat->Prop) (p:vB),PaO P (.iface T x) D W->p.size<=900000->jaB p=true->Dp P 900000 ->
 vQ (jfj P) #[x,.string p] W (PaTo D W (jbU P p))
theorem jvL(W:vW)(D:Nat->Prop)(p:vB):vQ 251 #[.agg #[],.string p] W (PaTo D W .no):=by
 unfold vQ;go_in;go_wp2_with fail
 go_ret;exact PaTo.mk1 rfl (((ExtR W).alloc _).mono (fun _ _ e=>e.elim))
theorem jxW(W:vW)(D:Nat->Prop)(q v p:vB)(b:Nat)(hB:Blk W b (.cells #[.string q,.string v] 231))(hD:D b):vQ 234 #[.pointer (some ⟨b,0,none⟩),.string p] W (PaTo D W (jbU (.leaf q v) p)):=by
 have H:=hB.cell (i:=0) (v:=.string q) vF;have A:=Hd hB;have E:=Hd hD;have z:jbU (.leaf q v) p=if p=q then .no else .leaf q v:=rfl
 rw[z];clear hB hD z
 by_cases hpq:p=q
 ·rw[if_pos hpq]
  have e:(p.toList == q.toList)=true:=by rw[jd6];exact decide_eq_true hpq
  clear hpq;unfold vQ;go_in;go_wp2_with fail
  go_ret;exact PaTo.mk1 rfl (jaf.refl _ W)
 ·rw[if_neg hpq]
  have e:(p.toList == q.toList)=false:=by rw[jd6];exact decide_eq_false hpq
  clear hpq;unfold vQ;go_in;go_wp2_with fail
  go_ret;exact PaTo.mk1 ⟨b,rfl,.inl E.o,A.o⟩ (jaf.refl _ W)
theorem jfB:∀ (P:PA) (p:vB),(jbU P p).isNil=false
 | .nil,_=>rfl
 | .no,_=>rfl
 | .leaf q v,p=>by
  unfold jbU;split <;> rfl
 | .ext q n,p=>by
  unfold jbU;split
  ·exact jdI (jfB n _)
  ·rfl
 | .br v ks,p=>by
  have o:∀ v ks,(jdu v ks).isNil=false:=by
   intro v ks;have z:∀ i∈idxK ks,(ks i).isNil=false:=fun i A=>by
    have:=(cM.1 A).2
    simpa using this
   unfold jdu;cases e:idxK ks with
   | nil =>
    show (if v.size=0 then PA.no else .leaf ⟨#[]⟩ v).isNil=false;split <;> rfl
   | cons i r =>
    cases r with
    | nil =>
     show (if v.size=0 then jci ⟨#[UInt8.ofNat i]⟩ (ks i)else .br v ks).isNil=false;split
     ·exact jdI (z i (by rw[e];exact bH))
     ·rfl
    | cons j r=>rfl
  unfold jbU;split
  ·exact o _ _
  ·split
   ·rfl
   ·exact o _ _
theorem jvd(W:vW)(D:Nat->Prop)(q:vB)(n:PA)(T:TypeId)(x:vV)(Dn:Nat->Prop)(b:Nat)(hB:Blk W b (.cells #[.string q,.iface T x] 234))(hDb:D b)(hv:PaAt n (.iface T x) Dn W)(hbn:¬ Dn b)(hD:∀ x,Dn x->D x/\x < W.heap.size)(p:vB)(hp:jaB p=true)(hqs:q.size<=900000)(hps:p.size<=900000)(hf:preB q p=false):vQ 240 #[.pointer (some ⟨b,0,none⟩),.string p] W (PaTo D W (.ext q n)):=by
 have H:=hB.cell (i:=0) (v:=.string q) vF;have J:=hB.cell (i:=1) (v:=.iface T x) vF;have Q0:=Hd H;have Q1:=Hd J;have K:=Hd hB;have O:=Hd hv;have Q:Hid (∀ z,Dn z->D z/\z < W.heap.size):=hD;have E:=Hd (bB hDb hbn);have A:=jin W p q vO vO;unfold cutV at A;rw[hf,if_neg ff]at A;have X:=Hd A;clear hB hDb hv hbn hD hp hf A;unfold vQ;go_in;go_wp2_with fail
 refine X.o.mono ?_;rintro e w1 ⟨rfl,rfl⟩;go_wp2_with fail
 go_ret;exact PaTo.mk1 ⟨b,T,x,Dn,rfl,.inl E.o.1,K.o,O.o,E.o.2,fun z Z=>.inl (Q.o z Z).1⟩ (jaf.refl _ _)
theorem jvc(W:vW)(D:Nat->Prop)(q:vB)(n:PA)(T:TypeId)(x:vV)(Dn:Nat->Prop)(b:Nat)(hB:Blk W b (.cells #[.string q,.iface T x] 234))(hDb:D b)(hv:PaAt n (.iface T x) Dn W)(hbn:¬ Dn b)(hD:∀ x,Dn x->D x/\x < W.heap.size)(p:vB)(hp:jaB p=true)(hqs:q.size<=900000)(hps:p.size<=900000)(Q:Dp n 900000)(hk:jut n)(hf:preB q p=true) :
  vQ 240 #[.pointer (some ⟨b,0,none⟩),.string p] W (PaTo D W (jci q (jbU n (p.extract q.size p.size)))):=by
 have q0:=hB.cell (i:=0) (v:=.string q) vF;have q1:=hB.cell (i:=1) (v:=.iface T x) vF;have Q0:=Hd q0;have Q1:=Hd q1;have HB:=Hd hB;have HV:=Hd hv;have HD:Hid (∀ z,Dn z->D z/\z < W.heap.size):=hD;have Z:=jin W p q vO vO;unfold cutV at Z;rw[hf,if_pos rfl]at Z;have HC:=Hd Z;have a8:=hB.lt;have a4:=Hd (show ¬(Dn b\/W.heap.size<=b)from fun e=>e.elim hbn (fun e=>by omega));have a1:jaB (p.extract q.size p.size)=true:=jbv hp _ _;have a5:(p.extract q.size p.size).size<=900000:=by rw[ja3];omega
 have HM:=Hd hv.meth;have a0:=Hd (show ∀ J,Ext W J->vQ (jfj n) #[x,.string (p.extract q.size p.size)] J (PaTo Dn J (jbU n (p.extract q.size p.size)))from fun J e=>hk J T x Dn _ ⟨hv.keeps e _ _ _ (fun _ _ e=>e),fun z A=>bQ (hD z A).2 e.size⟩ a5 a1 Q);have a9:Hid (Dp (jbU n (p.extract q.size p.size)) 1000000):=(jcg _ _ _ (jiv n 900000 _ Q) vO);clear hB hDb hv hbn hD hp Q hk hf a1 a5 Z a8;go_enter Tryz.func240,Tryz.ntmps240;go_wp2_with fail
 refine HC.o.mono ?_;rintro e Wk ⟨rfl,rfl⟩;go_wp2_with fail
 refine jaC [0,1,2,3,4,5,6,7,8,9,10,11] [9,10] Ext (jaf (fun z=>Dn z\/Wk.heap.size<=z)) ExtR ExtT (fun x y z h k=>jaf.trans h k) (fun x y h=>h.mono (fun _ _ h=>h.elim)) vY vY vY ?_
 refine vD ?_
 refine qDV _ ((.pointer (some ⟨b,0,none⟩))) rfl (fun w1 _=>by kernel_rfl) ?_;refine vS ?_
 refine vD ?_
 refine qDL ⟨b,0,none⟩ _ rfl (fun w1 h1=>jaD (fun w=>by kernel_rfl) (jar Q0.o (((jaf.refl (fun z=>Dn z\/Wk.heap.size<=z) Wk).drew).trans h1) (by exact a4.o))) ?_;refine vS ?_
 refine vD ?_
 refine qDV _ ((.pointer (some ⟨b,0,none⟩))) rfl (fun w1 _=>by kernel_rfl) ?_;refine vS ?_
 refine vD ?_
 refine qDL ⟨b,1,none⟩ _ rfl (fun w1 h1=>jaD (fun w=>by kernel_rfl) (jar Q1.o (((jaf.refl (fun z=>Dn z\/Wk.heap.size<=z) Wk).drew).trans h1) (by exact a4.o))) ?_;refine vS ?_
 refine vD ?_
 refine qDH _ rfl (fun J hb K hK=>?_);have X:Ext Wk J:=((ExtR Wk).drew).trans hb;refine jbK (jcL (f:=jfj n) (vs:=#[.string (p.extract q.size p.size)]) rfl (HM.o.drop _) (jfC _) vY) ?_;refine (a0.o J X).mono ?_;rintro e w2 ⟨v2,rfl,O,E⟩
 refine⟨v2,rfl,hK _ _ (E.mono (fun z _ A=>.inl A)) ?_⟩
 have HS:=Hd (bB X (bB O E));clear hK K hb X O E;refine vS ?_;refine qDH _ rfl (fun wc hc K hK=>?_)
 obtain⟨X,O,E⟩:=HS.o
 have kc:jaf Dn J wc:=E.trans (hc.mono (fun _ _ e=>e.elim));have a6:PaAt (jbU n (p.extract q.size p.size)) v2 (Grow Dn J wc) wc:=(O.keeps hc _ _ _ (fun _ _ e=>e)).mono (fun z A=>A.imp id (fun e=>⟨e.1,bQ e.2 hc.size⟩));have a3:=PaTo.own a6 kc (fun z A=>bQ (HD.o z A).2 X.size);refine jbK (jaq (vX 239) vY) ((pj_c wc _ q _ v2 a3 (jfB _ _) vO a9.o).mono ?_);rintro e w5 ⟨v5,rfl,a2,H⟩
 refine⟨v5,rfl,hK _ _ (H.mono (fun _ _ e=>e.elim)) ?_⟩
 have HZ:=Hd (bB kc (bB a2 (bB H (jeN a3.lt H))));clear hK K hc X O E kc a6 a3 a2 H;refine vS ?_
 refine vD ?_
 refine qDE (fun wd Q=>?_);have HQ:=Hd Q;clear Q;go_wp2_with fail
 go_ret
 obtain⟨X,_,_⟩:=HS.o
 obtain⟨kc,a2,H,b0⟩:=HZ.o
 have Q:=HQ.o;refine PaTo.mk1 ((a2.keeps Q _ _ _ (fun _ _ e=>e)).mono (fun z A=>?_)) (((X.mono (fun _ _ e=>e.elim):jaf D Wk J).trans (kc.mono (fun z _ A=>(HD.o z A).1))).trans ((H.trans Q).mono (fun _ _ e=>e.elim)));have a7:=bQ (b0 z A) Q.size;rcases A with (A | A) | A
 ·exact .inl (HD.o z A).1
 ·exact .inr ⟨bK X.size A.1,a7⟩
 ·exact .inr ⟨bK (bK X.size kc.size) A.1,a7⟩
theorem Tryz.uKids:Tryz.prog.underlying 236=some (.array 16 121):=vY
theorem Tryz.iKids:(Tryz.prog.info? 236).map (·.size)=some 16:=vY
theorem Tryz.partOne:(Tryz.prog.info? 121).map (·.size)=some 1:=vY
theorem Tryz.partAgg(w:vW):(isAgg 121).run Tryz.prog w=.ok false w:=vY
def jqD(vk:Nat->vV):List vV:=(List.range 16).map vk
theorem jvy(vk:Nat->vV){i:Nat}(h:i < 16):(jqD vk)[i]?=some (vk i):=by
 unfold jqD;rw[cA,fA h];rfl
theorem jbi{W:vW}{b:Nat}{u:vB}{vk:Nat->vV}(hB:Blk W b (.cells (brC u vk).toArray 238)):(Instr.loadAt 236 (.pointer (some ⟨b,1,none⟩))).run Tryz.prog W=.ok (.agg (jqD vk).toArray) W:=by
 have e:W.rangeAt b 1 (jqD vk):=fun j v z=>hB.cellL (by rw[gL];exact z);have o:=run_loadVar_mid (P:=Tryz.prog) W b 1 236 _ _ e Tryz.uKids rfl (by unfold jqD;simp only[cC,gQ];exact Tryz.iKids);simp[Instr.loadAt,Instr.sureAddr,bX,Result.andThen,o]
theorem jeW(vk:Nat->vV){i:Nat}(h:i < 16)(w:vW):(Instr.index 236 (.agg (jqD vk).toArray) (.int .i64 (i:Int))).run Tryz.prog w=.ok (vk i) w:=
 jeV Tryz.uKids Tryz.partOne Tryz.partAgg _ i h _ (jvy vk h) w
theorem jdA(T:TypeId)(x:vV)(w:vW):(binOp .neq 121 (.iface T x) .nilIface).run Tryz.prog w=.ok (.bool true) w:=vY
theorem jkN(w:vW):(binOp .neq 121 .nilIface .nilIface).run Tryz.prog w=.ok (.bool false) w:=vY
def idxN(ks:Nat->PA)(k:Nat):List Nat:=(List.range k).filter fun i => !(ks i).isNil
theorem jff(ks:Nat->PA)(k:Nat):idxN ks (k+1)=idxN ks k++(if (ks k).isNil then []else [k]):=by
 unfold idxN;rw[fS,gM]
 congr 1
 cases h:(ks k).isNil <;> simp[h]
theorem PaAt.kid{P:PA}{v:vV}{D:Nat->Prop}{W:vW}(h:PaAt P v D W):(P.isNil=true/\v=.nilIface)\/(P.isNil=false/\∃ T x,v=.iface T x):=by
 cases hn:P.isNil with
 | true=>rw[jbE hn]at h;exact .inl ⟨rfl,h⟩
 | false=>exact .inr ⟨rfl,h.form hn⟩
def jri(ks:Nat->PA)(W:vW)(cv ov iv:vV)(wr:vW):Prop:=∃ (k c o:Nat),k<=16/\iv=.int .i64 (k:Int)/\cv=.int .i64 (c:Int)/\ov=.int .i64 (o:Int)/\wr=W/\c=(idxN ks k).length/\o=(idxN ks k).getLast?.getD 0
theorem jqH(wr:vW)(D:Nat->Prop)(v:vB)(ks:Nat->PA)(b:Nat)(h:PaO (.br v ks) (brV b) D wr)(hi:idxK ks=[])(hv:v.size=0) :
  vQ 250 #[.pointer (some ⟨b,0,none⟩)] wr (PaTo D wr .no):=by
 obtain⟨vk,Dk,hb⟩:=h.br
 have J:=jbi hb.blk;have q0:=hb.blk.cellL (i:=0) (v:=.string v) vF;have H:=Hd hb;have a0:(⟨#[]⟩:vB).toList.isEmpty=true:=by rw[bO];rfl
 obtain⟨W,hW⟩:=vE wr
 have Q:=jbq hv;subst Q;have HI:=Hd hi;clear h hb hi hv;rw[<-hW]at J q0 H ⊢;clear hW;go_enter Tryz.func250,Tryz.ntmps250;go_wp2_with (refine jae 236 (.tmp 9) rfl rfl _ _ rfl J ?_)
 go_loopw [3,4,11] (fun cv ov X wr=>jri ks W cv ov X wr) (fun _ _ X _=>16 - (intOf X).toNat)
 case atStart=>exact⟨0,0,0,by omega,rfl,rfl,rfl,rfl,rfl,rfl⟩
 case round =>
  obtain⟨k,c,o,hk,rfl,rfl,rfl,rfl,E,K⟩:=hrel
  by_cases hlt:k < 16
  ·have O:=jeW vk hlt
   have e:=jff ks k;have a1:c<=16:=by rw[E];exact bK (dQ _ _) (by rw[gQ];omega)
   have z:=Hd (bB E K);rcases (H.o.kid k hlt).1.kid with⟨hn,hv⟩ |⟨hn,T,x,hv⟩
   ·rw[hn,if_pos rfl,bW]at e
    rw[hv]at O;have A:=Hd e;clear e E K hn hv;go_wp2;go_roundw
    case rel=>exact⟨k+1,c,o,by omega,by go_num,rfl,rfl,rfl,by rw[A.o];exact z.o.1,by rw[A.o];exact z.o.2⟩
    case measure=>exact vJ
   ·rw[hn,if_neg ff]at e
    rw[hv]at O;have hq:=jdA T x;have A:=Hd e;clear e E K hn hv;go_wp2;go_roundw
    case rel=>exact⟨k+1,c+1,k,by omega,by go_num,by go_num,rfl,rfl,by rw[A.o,bC, <-z.o.1];rfl,by rw[A.o];simp⟩
    case measure=>exact vJ
  ·obtain rfl:k=16:=vO
   have z:=Hd (bB E K);clear E K;have Z:c=0:=by rw[z.o.1];show (idxK ks).length=0;rw[HI.o];rfl
   subst Z;go_wp2_with fail
   go_ret;exact PaTo.mk1 rfl (jaf.refl _ _)
theorem jqG(wr:vW)(D:Nat->Prop)(v:vB)(ks:Nat->PA)(b:Nat)(h:PaO (.br v ks) (brV b) D wr)(hi:idxK ks=[])(hv:v.size≠0) :
  vQ 250 #[.pointer (some ⟨b,0,none⟩)] wr (PaTo D wr (.leaf ⟨#[]⟩ v)):=by
 obtain⟨vk,Dk,hb⟩:=h.br
 have K:=jbi hb.blk;have q0:=hb.blk.cellL (i:=0) (v:=.string v) vF;have H:=Hd hb;have a0:(⟨#[]⟩:vB).toList.isEmpty=true:=by rw[bO];rfl
 have a1:=jc2 hv;clear hv
 obtain⟨W,hW⟩:=vE wr
 have HI:=Hd hi;rw[<-hW]at K q0 H ⊢;clear h hb hi hW;go_enter Tryz.func250,Tryz.ntmps250;go_wp2_with (refine jae 236 (.tmp 9) rfl rfl _ _ rfl K ?_)
 go_loopw [3,4,11] (fun cv ov X wr=>jri ks W cv ov X wr) (fun _ _ X _=>16 - (intOf X).toNat)
 case atStart=>exact⟨0,0,0,by omega,rfl,rfl,rfl,rfl,rfl,rfl⟩
 case round =>
  obtain⟨k,c,o,hk,rfl,rfl,rfl,rfl,J,O⟩:=hrel
  by_cases hlt:k < 16
  ·have Q:=jeW vk hlt
   have z:=jff ks k;have a2:c<=16:=by rw[J];exact bK (dQ _ _) (by rw[gQ];omega)
   have A:=Hd (bB J O);rcases (H.o.kid k hlt).1.kid with⟨hn,hv⟩ |⟨hn,T,x,hv⟩
   ·rw[hn,if_pos rfl,bW]at z
    rw[hv]at Q;have E:=Hd z;clear z J O hn hv;go_wp2;go_roundw
    case rel=>exact⟨k+1,c,o,by omega,by go_num,rfl,rfl,rfl,by rw[E.o];exact A.o.1,by rw[E.o];exact A.o.2⟩
    case measure=>exact vJ
   ·rw[hn,if_neg ff]at z
    rw[hv]at Q;have hq:=jdA T x;have E:=Hd z;clear z J O hn hv;go_wp2;go_roundw
    case rel=>exact⟨k+1,c+1,k,by omega,by go_num,by go_num,rfl,rfl,by rw[E.o,bC, <-A.o.1];rfl,by rw[E.o];simp⟩
    case measure=>exact vJ
  ·obtain rfl:k=16:=vO
   have A:=Hd (bB J O);clear J O;have Z:c=0:=by rw[A.o.1];show (idxK ks).length=0;rw[HI.o];rfl
   subst Z;go_wp2_with fail
   go_ret;have hB:=Blk.new wr (.cells #[.string ⟨#[]⟩,.string v] 231);exact PaTo.mk1 ⟨_,rfl,.inr ⟨bL _,hB.lt⟩,hB⟩ (((ExtR wr).alloc _).mono (fun _ _ e=>e.elim))
theorem jnS(wr:vW)(D:Nat->Prop)(v:vB)(ks:Nat->PA)(b:Nat)(h:PaO (.br v ks) (brV b) D wr)(i:Nat)(hi:idxK ks=[i])(hv:v.size≠0) :
  vQ 250 #[.pointer (some ⟨b,0,none⟩)] wr (PaTo D wr (.br v ks)):=by
 obtain⟨vk,Dk,hb⟩:=h.br
 have J:=jbi hb.blk;have q0:=hb.blk.cellL (i:=0) (v:=.string v) vF;have H:=Hd hb;have a0:(⟨#[]⟩:vB).toList.isEmpty=true:=by rw[bO];rfl
 have a1:=jc2 hv;clear hv
 obtain⟨W,Z⟩:=vE wr
 have HI:=Hd hi;rw[<-Z]at J q0 H ⊢;clear h hb hi Z;go_enter Tryz.func250,Tryz.ntmps250;go_wp2_with (refine jae 236 (.tmp 9) rfl rfl _ _ rfl J ?_)
 go_loopw [3,4,11] (fun cv ov Q wr=>jri ks W cv ov Q wr) (fun _ _ Q _=>16 - (intOf Q).toNat)
 case atStart=>exact⟨0,0,0,by omega,rfl,rfl,rfl,rfl,rfl,rfl⟩
 case round =>
  obtain⟨k,c,o,hk,rfl,rfl,rfl,rfl,E,K⟩:=hrel
  by_cases hlt:k < 16
  ·have O:=jeW vk hlt
   have e:=jff ks k;have a2:c<=16:=by rw[E];exact bK (dQ _ _) (by rw[gQ];omega)
   have z:=Hd (bB E K);rcases (H.o.kid k hlt).1.kid with⟨hn,hv⟩ |⟨hn,T,x,hv⟩
   ·rw[hn,if_pos rfl,bW]at e
    rw[hv]at O;have A:=Hd e;clear e E K hn hv;go_wp2;go_roundw
    case rel=>exact⟨k+1,c,o,by omega,by go_num,rfl,rfl,rfl,by rw[A.o];exact z.o.1,by rw[A.o];exact z.o.2⟩
    case measure=>exact vJ
   ·rw[hn,if_neg ff]at e
    rw[hv]at O;have hq:=jdA T x;have A:=Hd e;clear e E K hn hv;go_wp2;go_roundw
    case rel=>exact⟨k+1,c+1,k,by omega,by go_num,by go_num,rfl,rfl,by rw[A.o,bC, <-z.o.1];rfl,by rw[A.o];simp⟩
    case measure=>exact vJ
  ·obtain rfl:k=16:=vO
   have z:=Hd (bB E K);clear E K;have X:c=1:=by rw[z.o.1];show (idxK ks).length=1;rw[HI.o];rfl
   subst X;go_wp2_with fail
   go_ret;exact PaTo.mk1 (H.o.pa.at'.mono (fun x hx=>.inl hx)) (jaf.refl _ _)
theorem jnT(wr:vW)(D:Nat->Prop)(v:vB)(ks:Nat->PA)(b:Nat)(h:PaO (.br v ks) (brV b) D wr)(hi:2<=(idxK ks).length) :
  vQ 250 #[.pointer (some ⟨b,0,none⟩)] wr (PaTo D wr (.br v ks)):=by
 obtain⟨vk,Dk,hb⟩:=h.br
 have J:=jbi hb.blk;have q0:=hb.blk.cellL (i:=0) (v:=.string v) vF;have H:=Hd hb;have a0:(⟨#[]⟩:vB).toList.isEmpty=true:=by rw[bO];rfl
 obtain⟨W,Z⟩:=vE wr
 have HI:=Hd hi;rw[<-Z]at J q0 H ⊢;clear h hb hi Z;go_enter Tryz.func250,Tryz.ntmps250;go_wp2_with (refine jae 236 (.tmp 9) rfl rfl _ _ rfl J ?_)
 go_loopw [3,4,11] (fun cv ov Q wr=>jri ks W cv ov Q wr) (fun _ _ Q _=>16 - (intOf Q).toNat)
 case atStart=>exact⟨0,0,0,by omega,rfl,rfl,rfl,rfl,rfl,rfl⟩
 case round =>
  obtain⟨k,c,o,hk,rfl,rfl,rfl,rfl,E,K⟩:=hrel
  by_cases hlt:k < 16
  ·have O:=jeW vk hlt
   have e:=jff ks k;have a1:c<=16:=by rw[E];exact bK (dQ _ _) (by rw[gQ];omega)
   have z:=Hd (bB E K);rcases (H.o.kid k hlt).1.kid with⟨hn,hv⟩ |⟨hn,T,x,hv⟩
   ·rw[hn,if_pos rfl,bW]at e
    rw[hv]at O;have A:=Hd e;clear e E K hn hv;go_wp2;go_roundw
    case rel=>exact⟨k+1,c,o,by omega,by go_num,rfl,rfl,rfl,by rw[A.o];exact z.o.1,by rw[A.o];exact z.o.2⟩
    case measure=>exact vJ
   ·rw[hn,if_neg ff]at e
    rw[hv]at O;have hq:=jdA T x;have A:=Hd e;clear e E K hn hv;go_wp2;go_roundw
    case rel=>exact⟨k+1,c+1,k,by omega,by go_num,by go_num,rfl,rfl,by rw[A.o,bC, <-z.o.1];rfl,by rw[A.o];simp⟩
    case measure=>exact vJ
  ·obtain rfl:k=16:=vO
   have z:=Hd (bB E K);clear E K;have X:2<=c:=by rw[z.o.1];exact HI.o
   have g0:((c:Int) == 0)=false:=by simp;omega
   have g1:((c:Int) == 1)=false:=by simp;omega
   clear X;go_wp2_with fail
   go_ret;exact PaTo.mk1 (H.o.pa.at'.mono (fun x hx=>.inl hx)) (jaf.refl _ _)
theorem jsH(wr:vW)(D:Nat->Prop)(v:vB)(ks:Nat->PA)(b:Nat)(h:PaO (.br v ks) (brV b) D wr)(i:Nat)(hi:idxK ks=[i])(hv:v.size=0)(hd:Dp (.br v ks) 900000) :
  vQ 250 #[.pointer (some ⟨b,0,none⟩)] wr (PaTo D wr (jci (nib1 i) (ks i))):=by
 obtain⟨vk,Dk,hb⟩:=h.br
 have a3:=jbi hb.blk;have q0:=hb.blk.cellL (i:=0) (v:=.string v) vF;have H:=Hd hb;have b4:(⟨#[]⟩:vB).toList.isEmpty=true:=by rw[bO];rfl
 have a8:=jbq hv;subst a8;have a9:=Hd hd;clear hv hd
 obtain⟨W,hW⟩:=vE wr
 have HI:=Hd hi;rw[<-hW]at a3 q0 H ⊢;clear h hb hi hW;go_enter Tryz.func250,Tryz.ntmps250;go_wp2_with (refine jae 236 (.tmp 9) rfl rfl _ _ rfl a3 ?_)
 go_loopw [3,4,11] (fun cv ov iv wr=>jri ks W cv ov iv wr) (fun _ _ iv _=>16 - (intOf iv).toNat)
 case atStart=>exact⟨0,0,0,by omega,rfl,rfl,rfl,rfl,rfl,rfl⟩
 case round =>
  obtain⟨k,c,o,hk,rfl,rfl,rfl,rfl,hc,ho⟩:=hrel
  by_cases hlt:k < 16
  ·have a7:=jeW vk hlt
   have J:=jff ks k;have b5:c<=16:=by rw[hc];exact bK (dQ _ _) (by rw[gQ];omega)
   have O:=Hd (bB hc ho);rcases (H.o.kid k hlt).1.kid with⟨hn,hv⟩ |⟨hn,T,x,hv⟩
   ·rw[hn,if_pos rfl,bW]at J
    rw[hv]at a7;have Q:=Hd J;clear J hc ho hn hv;go_wp2;go_roundw
    case rel=>exact⟨k+1,c,o,by omega,by go_num,rfl,rfl,rfl,by rw[Q.o];exact O.o.1,by rw[Q.o];exact O.o.2⟩
    case measure=>exact vJ
   ·rw[hn,if_neg ff]at J
    rw[hv]at a7;have hq:=jdA T x;have Q:=Hd J;clear J hc ho hn hv;go_wp2;go_roundw
    case rel=>exact⟨k+1,c+1,k,by omega,by go_num,by go_num,rfl,rfl,by rw[Q.o,bC, <-O.o.1];rfl,by rw[Q.o];simp⟩
    case measure=>exact vJ
  ·obtain rfl:k=16:=vO
   have O:=Hd (bB hc ho);clear hc ho;have b0:c=1:=by rw[O.o.1];show (idxK ks).length=1;rw[HI.o];rfl
   have a4:o=i:=by rw[O.o.2];show (idxK ks).getLast?.getD 0=i;rw[HI.o];rfl
   subst b0;have a0:i∈idxK ks:=by rw[HI.o];exact bH
   have A:i < 16:=dW.1 (cM.1 a0).1;have X:(ks i).isNil=false:=by have:=(cM.1 a0).2;simpa using this
   rw[<-a4]at a0 A X;have b1:=Hd a4;have E:=H.o.kid o A
   obtain⟨T,x,a5⟩:=E.1.form X
   have qk:=H.o.blk.cellL (jeI ⟨#[]⟩ vk A);rw[a5]at qk;have QK:=Hd qk;have a1:=Hd (show PaAt (ks o) (.iface T x) (Dk o) wr/\(∀ z,Dk o z->z < wr.heap.size)/\(ks o).isNil=false/\Dp (ks o) 1000000 from⟨by rw[<-a5];exact E.1,fun z hz=>H.o.lt z (E.2.2 z hz),X,jcg _ _ _ (a9.o o X).2 vO⟩);have b2:=Hd E.2.2;have a6:o < 16:=A;have c1:(o:Int) < 16:=vO
   have c2:(o:Int) < 256:=vO
   clear a0 A X E a5 qk a4 a3;go_wp2_with fail
   refine jag [0,1,4,5,6,7,8,9,2,3,10,11] (Ext) ExtR ExtT vY vY vY ?_;iterate 4 refine vK ?_
   refine jcu _ ((.pointer (some ⟨b,0,none⟩))) rfl vY rfl (fun w1 _=>by kernel_rfl) ?_;refine vS ?_;iterate 2 refine vK ?_
   refine qKL ⟨b,1+o,none⟩ _ rfl (fun w1 h1=>jaD (fun w=>by kernel_rfl) (jaa (jaa QK.o (jah _)) h1)) ?_;refine vS ?_;refine jeu _ rfl vY rfl (fun w2 he K hK=>?_);have b3:=Hd (show Ext wr w2 from(jah _).trans he);clear he;go_simp;refine hK _ _ ((jaf.refl _ w2).alloc _) ?_;clear hK K;refine jcu _ (.string (nib1 o)) rfl vY rfl (fun w3 h3=>jkz vY h3 (fun e=>e) a6) ?_;refine vS ?_;refine jeu _ rfl vY rfl (fun wc hc K hK=>?_);have kc:Ext wr wc:=(b3.o.alloc _).trans hc;refine jbK (jaq (vX 239) vY) ((pj_c wc (Dk o) (nib1 o) (ks o) (.iface T x) ⟨a1.o.1.keeps kc _ _ _ (fun _ _ e=>e),fun z hz=>bQ (a1.o.2.1 z hz) kc.size⟩ a1.o.2.2.1 (by show 1<=_;omega) a1.o.2.2.2).mono ?_);rintro e w5 ⟨v5,rfl,a2,Z⟩
   refine⟨v5,rfl,hK _ _ Z ?_⟩
   have HZ:=Hd (bB kc (bB a2 Z));clear hK K hc kc a2 Z;refine vS ?_
   refine vK ?_
   refine qKE (fun wd hd=>?_);have HQ:=Hd hd;clear hd;go_wp2_with fail
   go_ret
   obtain⟨kc,a2,Z⟩:=HZ.o
   have hd:=HQ.o;rw[<-b1.o];refine PaTo.mk1 ((a2.keeps hd _ _ _ (fun _ _ e=>e)).mono (fun z hz=>?_)) (((kc.trans Z).trans hd).mono (fun _ _ e=>e.elim));rcases hz with hz | hz
   ·exact .inl (b2.o z hz)
   ·exact .inr ⟨bK kc.size hz.1,bQ hz.2 hd.size⟩
theorem jnR(W:vW)(D:Nat->Prop)(v:vB)(ks:Nat->PA)(b:Nat)(h:PaO (.br v ks) (brV b) D W)(hd:Dp (.br v ks) 900000) :
  vQ 250 #[.pointer (some ⟨b,0,none⟩)] W (PaTo D W (jdu v ks)):=by
 unfold jdu;cases hi:idxK ks with
 | nil =>
  show Calls _ _ _ W (PaTo D W (if v.size=0 then PA.no else .leaf ⟨#[]⟩ v))
  by_cases h0:v.size=0
  ·rw[if_pos h0];exact jqH W D v ks b h hi h0
  ·rw[if_neg h0];exact jqG W D v ks b h hi h0
 | cons i r =>
  cases r with
  | nil =>
   show Calls _ _ _ W (PaTo D W (if v.size=0 then jci ⟨#[UInt8.ofNat i]⟩ (ks i)else .br v ks))
   by_cases h0:v.size=0
   ·rw[if_pos h0];exact jsH W D v ks b h i hi h0 hd
   ·rw[if_neg h0];exact jnS W D v ks b h i hi h0
  | cons j r=>exact jnT W D v ks b h (by rw[hi];simp)
theorem jrE(W:vW)(D:Nat->Prop)(v:vB)(ks:Nat->PA)(b:Nat)(h:PaO (.br v ks) (brV b) D W)(hd:Dp (.br v ks) 900000):vQ 247 #[.pointer (some ⟨b,0,none⟩),.string ⟨#[]⟩] W (PaTo D W (jdu ⟨#[]⟩ ks)):=by
 obtain⟨vk,Dk,hb⟩:=h.br
 have q0:=hb.blk.cellL (i:=0) (v:=.string v) vF;have f0:W.frozen? ⟨b,0,none⟩=false:=hb.blk.frozen;have H:=Hd hb;have X:Hid (Dp (.br ⟨#[]⟩ ks) 900000):=hd;have Z:(⟨#[]⟩:vB).toList.isEmpty=true:=by rw[bO];rfl
 clear h hb hd;unfold vQ;go_in;go_wp2_with fail
 obtain⟨Q,E⟩:=vE (W.setCell ⟨b,0,none⟩ (.string ⟨#[]⟩))
 have K:jaf D W Q:=by rw[E];exact (jaf.oneSet W ⟨b,0,none⟩ (.string ⟨#[]⟩)).mono (fun x _ e=>by have e:x=b:=e;rw[e];exact H.o.mem)
 have J:=H.o.val ⟨#[]⟩;rw[<-E]at J ⊢;have O:=Hd (bB J K);clear J K E;refine (jnR Q D ⟨#[]⟩ ks b O.o.1.pa X.o).mono ?_;rintro e w2 ⟨v2,rfl,z,A⟩;have HZ:=Hd (bB z A);clear z A;go_wp2_with fail
 go_ret
 obtain⟨z,A⟩:=HZ.o
 exact PaTo.mk1 (z.mono (fun x hx=>hx.imp id (fun e=>⟨bK O.o.2.size e.1,e.2⟩))) (O.o.2.trans A)
theorem juI(W:vW)(D:Nat->Prop)(v:vB)(ks:Nat->PA)(b:Nat)(h:PaO (.br v ks) (brV b) D W)(p:vB)(h0:p.size≠0)(hp:jaB p=true)(hs:p.size<=900000)(hn:(ks (jat p)).isNil=true):vQ 247 #[.pointer (some ⟨b,0,none⟩),.string p] W (PaTo D W (.br v ks)):=by
 obtain⟨Q,Dk,hb⟩:=h.br
 obtain⟨y,t,J⟩:=jcp h0
 obtain⟨X,e2⟩:=jbL J
 have e:=jdV hp h0
 obtain⟨Z,A⟩:=jgD J
 have a1:=jc2 h0;have E:=jcx hp;have K:(jbB p).size<=900000:=by unfold jbB;rw[ja3];omega
 have O:jat p=(p[0]'Z).toNat:=by rw[X,A]
 have z:=hb.kid (jat p) e;have H:Q (jat p)=.nilIface:=by have:=z.1;rw[jbE hn]at this;exact this
 have q1:=hb.blk.cellL (jeI v Q e);rw[H]at q1;have HB:=Hd hb;have a2:=Hd O;have a0:=Hd e;have c1:(0:Int) < (p.size:Int):=vO
 have c2:((p[0]'Z).toNat:Int) < 16:=vO
 have c3:(1:Int)<=(p.size:Int):=vO
 rw[O]at q1;have hq:=jz0;clear h H J X e2 h0 hp hn A E K e O hb z;unfold vQ;go_in;go_wp2_with fail
 go_ret;exact PaTo.mk1 (HB.o.pa.at'.mono (fun x hx=>.inl hx)) (jaf.refl _ _)
theorem jtq{P:PA}{T:TypeId}{x:vV}{D:Nat->Prop}{W:vW}(h:PaAt P (.iface T x) D W)(hn:P.isNo=false)(w:vW):(Instr.typeAssert (.iface T x) 121 240 true).run Tryz.prog w=.ok (.tuple #[.agg #[],.bool false]) w:=by
 cases P with
 | nil=>cases h
 | no=>cases hn
 | leaf q u=>obtain⟨b,h,_⟩:=h;unfold jjo at h;injection h with h1 h2;subst h1 h2;kernel_rfl
 | ext q n=>obtain⟨b,_,_,_,h,_⟩:=h;unfold extV at h;injection h with h1 h2;subst h1 h2;kernel_rfl
 | br u ks=>obtain⟨b,_,_,h,_⟩:=h;unfold brV at h;injection h with h1 h2;subst h1 h2;kernel_rfl
theorem jrD(W:vW)(D:Nat->Prop)(v:vB)(ks:Nat->PA)(b:Nat)(h:PaO (.br v ks) (brV b) D W)(p:vB)(h0:p.size≠0)(hp:jaB p=true)(hs:p.size<=900000)(hn:(ks (jat p)).isNil=false)(hd:Dp (.br v ks) 900000)(hk:jut (ks (jat p)))(hno:(jbU (ks (jat p)) (jbB p)).isNo=false) :
  vQ 247 #[.pointer (some ⟨b,0,none⟩),.string p] W (PaTo D W (jdu v (setK ks (jat p) (jbU (ks (jat p)) (jbB p))))):=by
 obtain⟨vk,Dk,hb⟩:=h.br
 obtain⟨y,t,hy⟩:=jcp h0
 obtain⟨e1,e2⟩:=jbL hy
 have E:=jdV hp h0
 obtain⟨g0,b4⟩:=jgD hy
 have c8:=jc2 h0;have a6:=jcx hp;have b5:(jbB p).size<=900000:=by unfold jbB;rw[ja3];omega
 have hI:jat p=(p[0]'g0).toNat:=by rw[e1,b4]
 have H:=hb.kid (jat p) E
 obtain⟨T,x,a8⟩:=H.1.form hn
 have q1:=hb.blk.cellL (jeI v vk E);rw[a8]at q1;have Q1:=Hd q1;have HB:=Hd hb;have HM:=Hd ((show PaAt (ks (jat p)) (.iface T x) (Dk (jat p)) W by rw[<-a8];exact H.1).meth);have a9:=hd (jat p) hn;have a1:=Hd (show ∀ Q,Ext W Q->vQ (jfj (ks (jat p))) #[x,.string (jbB p)] Q (PaTo (Dk (jat p)) Q (jbU (ks (jat p)) (jbB p)))from fun Q e=>hk Q T x _ _ ⟨(show PaAt (ks (jat p)) (.iface T x) (Dk (jat p)) W by rw[<-a8];exact H.1).keeps e _ _ _ (fun _ _ e=>e),fun z J=>bQ (hb.lt z (H.2.2 z J)) e.size⟩ b5 a6 (jcg _ _ _ a9.2 vO));have b7:Hid (Dp (.br v (setK ks (jat p) (jbU (ks (jat p)) (jbB p)))) 900000):=jiw hd a9.1 (jiv _ _ _ a9.2) v;have b8:=Hd (show ¬(Dk (jat p) b\/W.heap.size<=b)from fun e=>e.elim (hb.kid _ E).2.1 (fun e=>by have:=hb.lt b hb.mem;omega));have hQ:=jnH T x;have b6:=Hd hI;have A:=Hd E;have c1:(0:Int) < (p.size:Int):=vO
 have c2:((p[0]'g0).toNat:Int) < 16:=vO
 have c3:(1:Int)<=(p.size:Int):=vO
 rw[hI]at q1;have b9:=Hd hno;clear h a8 hy e1 e2 h0 hp hn b4 a6 b5 E hI hb H hd a9 hk hno;go_enter Tryz.func247,Tryz.ntmps247;go_wp2_with fail
 refine jdd [0,1,2,3,4,5,6,7,8,9,10,11,13,14,12,15] 16 [12] Ext (jaf (fun z=>Dk (jat p) z\/W.heap.size<=z)) ExtR ExtT (fun x y z h k=>jaf.trans h k) (fun x y h=>h.mono (fun _ _ h=>h.elim)) vY vY vY ?_;iterate 4 refine vZ ?_
 refine jcK _ ((.pointer (some ⟨b,0,none⟩))) rfl vY rfl (fun w1=>by kernel_rfl) ?_;refine vS ?_;iterate 2 refine vZ ?_
 refine jgL ⟨b,1+(p[0]'g0).toNat,none⟩ _ rfl vY vY rfl rfl (fun w1 h1=>jaD (fun w=>by kernel_rfl) (by rw[<-b6.o];exact jar Q1.o (((jaf.refl (fun z=>Dk (jat p) z\/W.heap.size<=z) W).drew).trans h1) (by exact b8.o))) ?_;refine vS ?_;iterate 2 refine vZ ?_
 refine jcK _ (.iface T x) rfl vY rfl (fun w1=>by kernel_rfl) ?_;refine vS ?_
 refine vZ ?_
 refine jcK _ ((.pointer (some ⟨b,0,none⟩))) rfl vY rfl (fun w1=>by kernel_rfl) ?_;refine vS ?_
 refine vZ ?_
 refine jgJ _ rfl vY rfl (fun Q hb K hK=>?_);have kb:Ext W Q:=(jah _).trans hb;refine jbK (jcL (f:=jfj (ks (jat p))) (vs:=#[.string (jbB p)]) rfl (HM.o.drop _) (jfC _) vY) ?_;refine (a1.o Q kb).mono ?_;rintro e w2 ⟨v2,rfl,a3,X⟩
 refine⟨v2,rfl,hK _ _ (X.mono (fun z _ J=>.inl J)) ?_⟩
 have HS:=Hd (bB kb (bB a3 X));clear hK K hb kb a3 X;refine vS ?_
 refine vZ ?_
 refine jgK _ rfl vY rfl (fun wc hc K hK=>?_)
 obtain⟨hb,a3,X⟩:=HS.o
 have O:=HB.o.keeps (F:=fun _=>False) (hb) (fun _ _ e=>e);have kc:jaf (Dk (jat p)) Q wc:=X.trans (hc.mono (fun _ _ e=>e.elim));have b0:PaAt (jbU (ks (jat p)) (jbB p)) v2 (Grow (Dk (jat p)) Q wc) wc:=(a3.keeps hc _ _ _ (fun _ _ e=>e)).mono (fun z J=>J.imp id (fun e=>⟨e.1,bQ e.2 hc.size⟩))
 obtain⟨T2,x2,rfl⟩:=b0.form (jfB _ _)
 have ht:=O.turn A.o kc b0;have Z:=O.turn_keeps A.o kc (.iface T2 x2)
 obtain⟨old,q7⟩:∃ v,wc.cell? ⟨b,1+jat p,none⟩=some v:=⟨_,(O.blk.keeps kc (O.kid _ A.o).2.1).cellL (bA (by rw[jg9];have:=A.o;omega))⟩
 have f7:wc.frozen? ⟨b,1+jat p,none⟩=false:=(O.blk.keeps kc (O.kid _ A.o).2.1).frozen
 obtain⟨W3,a4⟩:=vE (wc.setCell ⟨b,1+jat p,none⟩ (.iface T2 x2))
 rw[<-a4]at ht Z
 obtain⟨c0,a0⟩:=vE (setV vk (jat p) (.iface T2 x2))
 obtain⟨c9,a7⟩:=vE (fun j=>if j=jat p then Grow (Dk (jat p)) Q wc else Dk j)
 rw[<-a0, <-a7]at ht;have c4:W3.cell? ⟨b,1+jat p,none⟩=some (.iface T2 x2):=by
  have:=ht.blk.cellL (jeI v c0 A.o)
  rw[this,a0];show some (setV vk (jat p) (.iface T2 x2) (jat p))=_;unfold setV;rw[if_pos rfl]
 have HT:=Hd (bB ht (bB Z (bB hb (show W3.heap.size=wc.heap.size by rw[a4];exact gK _ _ _))));have c5:=Hd b0;rw[b6.o]at q7 f7 a4 c4;clear hb a3 X O kc b0 ht Z hc;go_simp;rw[<-a4];refine hK _ _ ?_;clear hK K q7 f7 a4 a0 a7;have d0:∀ w,(Instr.typeAssert (.iface T2 x2) 121 240 true).run Tryz.prog w=.ok (.tuple #[.agg #[],.bool false]) w:=jtq c5.o b9.o;go_wp2_with fail
 obtain⟨W4,b2⟩:=vE (W3.alloc (.cells #[] 240))
 have a2:Ext W3 W4:=by rw[b2];exact (ExtR W3).alloc _
 rw[<-b2];have b3:=Hd (bB (HT.o.1.keeps a2 (fun _ _ e=>e)) a2);clear a2 b2;refine (jnR W4 _ v _ b b3.o.1.pa b7.o).mono ?_;rintro e w6 ⟨v6,rfl,b1,a5⟩;have HZ:=Hd (bB b1 (bB a5 (jeN b3.o.1.lt a5)));clear b1 a5;go_wp2_with fail
 go_ret
 obtain⟨b1,a5,c6⟩:=HZ.o
 obtain⟨ht,Z,hb,d1⟩:=HT.o
 obtain⟨_,a2⟩:=b3.o
 have d2:W.heap.size<=W3.heap.size:=by have:=hb.size;have:=Z.size;omega
 have c7:=a2.size;have g1:∀ z,Grow D Q wc z->D z\/W.heap.size<=z:=fun z J=>J.imp id (fun e=>bK hb.size e.1);refine PaTo.mk1 (b1.mono (fun z J=>?_)) ?_
 ·have hl:=c6 z J
  rcases J with J | J
  ·exact (g1 z J).imp id (fun e=>⟨e,hl⟩)
  ·exact .inr ⟨by have:=J.1;omega,hl⟩
 ·have k1:jaf D W W3:=(hb.mono (fun _ _ e=>e.elim):jaf D W Q).trans Z
  have k2:jaf D W W4:=k1.trans (a2.mono (fun _ _ e=>e.elim));exact k2.trans' a5 (fun z J e=>(g1 z e).elim id (fun e=>by omega))
theorem jqe(W:vW)(D:Nat->Prop)(v:vB)(ks:Nat->PA)(b:Nat)(h:PaO (.br v ks) (brV b) D W)(p:vB)(h0:p.size≠0)(hp:jaB p=true)(hs:p.size<=900000)(hn:(ks (jat p)).isNil=false)(hd:Dp (.br v ks) 900000)(hk:jut (ks (jat p)))(hno:(jbU (ks (jat p)) (jbB p)).isNo=true) :
  vQ 247 #[.pointer (some ⟨b,0,none⟩),.string p] W (PaTo D W (jdu v (setK ks (jat p) .nil))):=by
 obtain⟨vk,Dk,hb⟩:=h.br
 obtain⟨y,t,hy⟩:=jcp h0
 obtain⟨e1,e2⟩:=jbL hy
 have H:=jdV hp h0
 obtain⟨g0,c4⟩:=jgD hy
 have d5:=jc2 h0;have a7:=jcx hp;have c5:(jbB p).size<=900000:=by unfold jbB;rw[ja3];omega
 have hI:jat p=(p[0]'g0).toNat:=by rw[e1,c4]
 have J:=hb.kid (jat p) H
 obtain⟨T,x,b0⟩:=J.1.form hn
 have q1:=hb.blk.cellL (jeI v vk H);rw[b0]at q1;have Q1:=Hd q1;have HB:=Hd hb;have HM:=Hd ((show PaAt (ks (jat p)) (.iface T x) (Dk (jat p)) W by rw[<-b0];exact J.1).meth);have b5:=hd (jat p) hn;have a1:=Hd (show ∀ Q,Ext W Q->vQ (jfj (ks (jat p))) #[x,.string (jbB p)] Q (PaTo (Dk (jat p)) Q (jbU (ks (jat p)) (jbB p)))from fun Q e=>hk Q T x _ _ ⟨(show PaAt (ks (jat p)) (.iface T x) (Dk (jat p)) W by rw[<-b0];exact J.1).keeps e _ _ _ (fun _ _ e=>e),fun z E=>bQ (hb.lt z (J.2.2 z E)) e.size⟩ c5 a7 (jcg _ _ _ b5.2 vO));have c8:Hid (Dp (.br v (setK ks (jat p) .nil)) 900000):=jiw hd b5.1 ((show Dp PA.nil (900000 - 1)from trivial)) v;have c9:=Hd (show ¬(Dk (jat p) b\/W.heap.size<=b)from fun e=>e.elim (hb.kid _ H).2.1 (fun e=>by have:=hb.lt b hb.mem;omega));have hQ:=jnH T x;have b6:=Hd hI;have A:=Hd H;have c1:(0:Int) < (p.size:Int):=vO
 have c2:((p[0]'g0).toNat:Int) < 16:=vO
 have c3:(1:Int)<=(p.size:Int):=vO
 rw[hI]at q1;have d0:=Hd hno;clear h b0 hy e1 e2 h0 hp hn c4 a7 c5 H hI hb J hd b5 hk hno;go_enter Tryz.func247,Tryz.ntmps247;go_wp2_with fail
 refine jdd [0,1,2,3,4,5,6,7,8,9,10,11,13,14,12,15] 16 [12] Ext (jaf (fun z=>Dk (jat p) z\/W.heap.size<=z)) ExtR ExtT (fun x y z h k=>jaf.trans h k) (fun x y h=>h.mono (fun _ _ h=>h.elim)) vY vY vY ?_;iterate 4 refine vZ ?_
 refine jcK _ ((.pointer (some ⟨b,0,none⟩))) rfl vY rfl (fun w1=>by kernel_rfl) ?_;refine vS ?_;iterate 2 refine vZ ?_
 refine jgL ⟨b,1+(p[0]'g0).toNat,none⟩ _ rfl vY vY rfl rfl (fun w1 h1=>jaD (fun w=>by kernel_rfl) (by rw[<-b6.o];exact jar Q1.o (((jaf.refl (fun z=>Dk (jat p) z\/W.heap.size<=z) W).drew).trans h1) (by exact c9.o))) ?_;refine vS ?_;iterate 2 refine vZ ?_
 refine jcK _ (.iface T x) rfl vY rfl (fun w1=>by kernel_rfl) ?_;refine vS ?_
 refine vZ ?_
 refine jcK _ ((.pointer (some ⟨b,0,none⟩))) rfl vY rfl (fun w1=>by kernel_rfl) ?_;refine vS ?_
 refine vZ ?_
 refine jgJ _ rfl vY rfl (fun Q hb K hK=>?_);have kb:Ext W Q:=(jah _).trans hb;refine jbK (jcL (f:=jfj (ks (jat p))) (vs:=#[.string (jbB p)]) rfl (HM.o.drop _) (jfC _) vY) ?_;refine (a1.o Q kb).mono ?_;rintro e w2 ⟨v2,rfl,a4,X⟩
 refine⟨v2,rfl,hK _ _ (X.mono (fun z _ E=>.inl E)) ?_⟩
 have HS:=Hd (bB kb (bB a4 X));clear hK K hb kb a4 X;refine vS ?_
 refine vZ ?_
 refine jgK _ rfl vY rfl (fun wc hc K hK=>?_)
 obtain⟨hb,a4,X⟩:=HS.o
 have O:=HB.o.keeps (F:=fun _=>False) (hb) (fun _ _ e=>e);have kc:jaf (Dk (jat p)) Q wc:=X.trans (hc.mono (fun _ _ e=>e.elim));have b1:PaAt (jbU (ks (jat p)) (jbB p)) v2 (Grow (Dk (jat p)) Q wc) wc:=(a4.keeps hc _ _ _ (fun _ _ e=>e)).mono (fun z E=>E.imp id (fun e=>⟨e.1,bQ e.2 hc.size⟩))
 obtain⟨T2,x2,rfl⟩:=b1.form (jfB _ _)
 have ht:=O.turn A.o kc b1;have Z:=O.turn_keeps A.o kc (.iface T2 x2)
 obtain⟨old,q7⟩:∃ v,wc.cell? ⟨b,1+jat p,none⟩=some v:=⟨_,(O.blk.keeps kc (O.kid _ A.o).2.1).cellL (bA (by rw[jg9];have:=A.o;omega))⟩
 have f7:wc.frozen? ⟨b,1+jat p,none⟩=false:=(O.blk.keeps kc (O.kid _ A.o).2.1).frozen
 obtain⟨W3,a5⟩:=vE (wc.setCell ⟨b,1+jat p,none⟩ (.iface T2 x2))
 rw[<-a5]at ht Z
 obtain⟨d1,a0⟩:=vE (setV vk (jat p) (.iface T2 x2))
 obtain⟨d6,a8⟩:=vE (fun j=>if j=jat p then Grow (Dk (jat p)) Q wc else Dk j)
 rw[<-a0, <-a8]at ht;have b7:W3.cell? ⟨b,1+jat p,none⟩=some (.iface T2 x2):=by
  have:=ht.blk.cellL (jeI v d1 A.o)
  rw[this,a0];show some (setV vk (jat p) (.iface T2 x2) (jat p))=_;unfold setV;rw[if_pos rfl]
 have HT:=Hd (bB ht (bB Z (bB hb (show W3.heap.size=wc.heap.size by rw[a5];exact gK _ _ _))));have d2:=Hd b1;rw[b6.o]at q7 f7 a5 b7;clear hb a4 X O kc b1 ht Z hc;go_simp;rw[<-a5];refine hK _ _ ?_;clear hK K q7 f7 a5 a0 a8;have c6:Value.iface T2 x2=noV:=by have:=d2.o;rw[jsA d0.o]at this;exact this
 unfold noV at c6;injection c6 with hn1 hn2;subst hn1 hn2;have d7:∀ w,(Instr.typeAssert (.iface 240 (.agg #[])) 121 240 true).run Tryz.prog w=.ok (.tuple #[.agg #[],.bool true]) w:=fun w=>by kernel_rfl
 have q4:(W3.alloc (.cells #[] 240)).cell? ⟨b,1+(p[0]'g0).toNat,none⟩=some (.iface 240 (.agg #[])):=jaa b7 ((ExtR W3).alloc _);have f4:(W3.alloc (.cells #[] 240)).frozen? ⟨b,1+(p[0]'g0).toNat,none⟩=false:=(HT.o.1.blk.alloc _).frozen;clear q4;have q4:=jaa b7 ((ExtR W3).alloc (.cells #[] 240));go_wp2_with fail
 obtain⟨W4,b8⟩:=vE (W3.alloc (.cells #[] 240))
 have a2:Ext W3 W4:=by rw[b8];exact (ExtR W3).alloc _
 rw[<-b8]at q4 f4 ⊢;have b9:=HT.o.1.keeps a2 (fun _ _ e=>e);have b2:=b9.turn A.o (P:=.nil) (v:=.nilIface) (jaf.refl _ W4) rfl;have a3:=b9.turn_keeps A.o (jaf.refl _ W4) .nilIface
 obtain⟨W5,b3⟩:=vE (W4.setCell ⟨b,1+jat p,none⟩ .nilIface)
 rw[<-b3]at b2 a3;rw[b6.o]at b3;rw[<-b3];have c7:setK (setK ks (jat p) (jbU (ks (jat p)) (jbB p))) (jat p) .nil=setK ks (jat p) .nil:=by
  funext j
  unfold setK
  by_cases e:j=jat p
  ·rw[if_pos e,if_pos e]
  ·rw[if_neg e,if_neg e,if_neg e]
 rw[c7]at b2;have a9:W4.heap.size<=W5.heap.size:=a3.size;have c0:=Hd (bB b2 (bB a3 (bB a2 a9)));clear b9 b2 a3 a2 b8 b3 q4 f4 c7 a9;refine (jnR W5 _ v _ b c0.o.1.pa c8.o).mono ?_;rintro e w6 ⟨v6,rfl,b4,a6⟩;have HZ:=Hd (bB b4 (bB a6 (jeN c0.o.1.lt a6)));clear b4 a6;go_wp2_with fail
 go_ret
 obtain⟨b4,a6,d3⟩:=HZ.o
 obtain⟨ht,Z,hb,d8⟩:=HT.o
 obtain⟨_,a3,a2,d9⟩:=c0.o
 have e0:W.heap.size<=W3.heap.size:=by have:=hb.size;have:=Z.size;omega
 have d4:=a2.size;have g1:∀ z,Grow D Q wc z->D z\/W.heap.size<=z:=fun z E=>E.imp id (fun e=>bK hb.size e.1);have g2:∀ z,Grow (Grow D Q wc) W4 W4 z->D z\/W.heap.size<=z:=fun z E=>E.elim (g1 z) (fun e=>by omega);refine PaTo.mk1 (b4.mono (fun z E=>?_)) ?_
 ·have hl:=d3 z E
  rcases E with E | E
  ·exact (g2 z E).imp id (fun e=>⟨e,hl⟩)
  ·exact .inr ⟨by have:=E.1;omega,hl⟩
 ·have k1:jaf D W W3:=(hb.mono (fun _ _ e=>e.elim):jaf D W Q).trans Z
  have k2:jaf D W W4:=k1.trans (a2.mono (fun _ _ e=>e.elim));have k3:jaf D W W5:=k2.trans' a3 (fun z E e=>(g1 z e).elim id (fun e=>by omega));exact k3.trans' a6 (fun z E e=>(g2 z e).elim id (fun e=>by omega))
theorem jh8:∀ (P:PA),VaP P->jut P
 | .nil,_=>fun W T x D p h _ _ _=>by cases h.at'
 | .no,_=>fun W T x D p h _ _ _=>by
  have e:Value.iface T x=noV:=h.at';unfold noV at e;injection e with e1 e2;subst e1 e2;exact jvL W D p
 | .leaf q v,hv=>fun W T x D p h A E o=>by
  obtain⟨b,e,J,K⟩:=h.at'
  unfold jjo at e;injection e with e1 e2;subst e1 e2;exact jxW W D q v p b K J
 | .ext q n,hv=>fun W T x D p h A E o=>by
  obtain⟨b,Q,X,O,e,J,K,Z,h4,h5⟩:=h.at'
  unfold extV at e;injection e with e1 e2;subst e1 e2;have H:∀ z,O z->D z/\z < W.heap.size:=fun z hz=>⟨h5 z hz,h.lt z (h5 z hz)⟩;show Calls _ _ _ W (PaTo D W (jbU (.ext q n) p));unfold jbU;cases hf:preB q p with
  | true =>
   rw[if_pos rfl];exact jvc W D q n Q X O b K J Z h4 H p E o.1 A (jcg _ _ _ o.2 vO) (jh8 n hv.2) hf
  | false =>
   rw[if_neg ff];exact jvd W D q n Q X O b K J Z h4 H p E o.1 A hf
 | .br v ks,hv=>fun W T x D p h A E o=>by
  obtain⟨b,vk,Dk,e,_⟩:=h.at'
  unfold brV at e;injection e with e1 e2;subst e1 e2;show Calls _ _ _ W (PaTo D W (jbU (.br v ks) p));unfold jbU
  by_cases h0:p.size=0
  ·rw[if_pos h0,jbq h0]
   exact jrE W D v ks b h o
  ·rw[if_neg h0]
   cases hk:(ks (jat p)).isNil with
   | true=>rw[if_pos rfl];exact juI W D v ks b h p h0 E A hk
   | false =>
    rw[if_neg ff];unfold unNo;cases hno:(jbU (ks (jat p)) (jbB p)).isNo with
    | true=>rw[if_pos rfl];exact jqe W D v ks b h p h0 E A hk o (jh8 (ks (jat p)) (hv _)) hno
    | false=>rw[if_neg ff];exact jrD W D v ks b h p h0 E A hk o (jh8 (ks (jat p)) (hv _)) hno
def cntP:PA->Nat
 | .nil=>0
 | .no=>1
 | .leaf _ _=>1
 | .ext _ n=>1+cntP n
 | .br _ ks=>1+sumF (fun i=>cntP (ks i)) 16
theorem jo8(p v:vB):(keyR p v).length<=1:=by unfold keyR;split <;> simp
theorem jgE{α:Type}(g:Nat->List α)(f:Nat->Nat)(h:∀ i,(g i).length<=f i):∀ n,((List.range n).flatMap g).length<=sumF f n
 | 0=>by simp
 | n+1=>by
  rw[fS,dR,bC]
  have:=jgE g f h n
  have:=h n
  simp only[cH,fU,bW,sumF];omega
theorem jnF:∀ (P:PA) (p:vB),(entP P p).length<=cntP P
 | .nil,_=>bL _
 | .no,_=>cE _
 | .leaf q v,p=>jo8 _ _
 | .ext q n,p=>bK (jnF n (p++q)) (Nat.le_add_left _ _)
 | .br v ks,p=>by
  show ((if v.size=0 then []else keyR p v)++(List.range 16).flatMap fun i=>if (ks i).isNil then []else entP (ks i) (p++nib1 i)).length<=1+sumF (fun i=>cntP (ks i)) 16;rw[bC];have e:(if v.size=0 then []else keyR p v:vL).length<=1:=by
   split
   ·simp
   ·exact jo8 _ _
  have o:=jgE (fun i=>if (ks i).isNil then []else entP (ks i) (p++nib1 i)) (fun i=>cntP (ks i)) (fun i=>by
   show (if (ks i).isNil=true then ([]:vL)else entP (ks i) (p++nib1 i)).length<=cntP (ks i);split
   ·simp
   ·exact jnF (ks i) _) 16
  omega
theorem ERow.len'{w0 w:vW}{v:vV}{n:Nat}{xs:vL}(h:ERow w0 w v n xs):n=xs.length:=by have:=h.len;rw[jdH]at this;omega
def EnP(w0:vW)(xs:vL)(e:Ending)(w':vW):Prop:=∃ v n,e=.returned v/\ERow w0 w' v n xs
def EntC(P:PA):Prop:=∀ (w0 W:vW) (T:TypeId) (x:vV) (D:Nat->Prop) (p:vB) (v:vV) (n k:Nat) (E:vL),PaO P (.iface T x) D w0->ERow w0 W v n E->Dp P k->p.size+k<=900000->n+cntP P<=100000 ->
 vQ (jgf P) #[x,.string p,v] W (EnP w0 (E++entP P p))
theorem jyb(w0 W:vW)(p:vB)(v:vV)(n:Nat)(E:vL)(h:ERow w0 W v n E):vQ 252 #[.agg #[],.string p,v] W (EnP w0 E):=by
 have H:=Hd h
 obtain⟨a,c,rfl⟩:=h.sl
 clear h;unfold vQ;go_in;go_wp2_with fail
 go_ret
 exact⟨_,n,rfl,H.o.mono ((ExtR W).alloc _)⟩
theorem jjC(k v:vB):jb8 [(k,v)]=[.string k,.string v]:=rfl
theorem jAf(w0 W:vW)(q u p:vB)(b:Nat)(hB:Blk w0 b (.cells #[.string q,.string u] 231))(v:vV)(n:Nat)(E:vL)(h:ERow w0 W v n E)(hs:p.size+q.size<=900000)(hn:n<=100000) :
  vQ 235 #[.pointer (some ⟨b,0,none⟩),.string p,v] W (EnP w0 (E++keyR (p++q) u)):=by
 have q0:=jaa (hB.cell (i:=0) (v:=.string q) vF) h.ext;have Z:=Hd (jaa (hB.cell (i:=1) (v:=.string u) vF) h.ext);have H:=Hd h
 obtain⟨a,c,rfl⟩:=h.sl
 have e:=fun w=>jsC w (p++q) (by rw[jc5];omega);unfold keyV at e;unfold keyR;cases hok:jdh (p++q)with
 | false =>
  rw[if_neg ff,bW];rw[hok,if_neg ff]at e;have A:=Hd e;clear h hB e hok;go_enter Tryz.func235,Tryz.ntmps235;go_wp2_with fail
  refine vH (A.o W) fun w1 O=>?_;go_wp2_with fail
  go_ret
  exact⟨_,n,rfl,H.o.mono O.o⟩
 | true =>
  rw[if_pos rfl];rw[hok,if_pos rfl]at e;have A:=Hd e;clear h hB e hok;go_enter Tryz.func235,Tryz.ntmps235;go_wp2_with fail
  refine vC (A.o W) fun w1 z=>?_;have O:=Hd z;have q1:=jaa Z.o z;have HR:=Hd (H.o.mono z);clear z;go_wp2_with (at_builtin;refine jaK Tryz.sEnts (HR.o.mono ((ExtR w1).alloc _)) (.tmp 20) (.tmp 27) rfl rfl rfl (jaI (Blk.new w1 _)) (news:=[.string (jbt (p++q)),.string u]) (by intro u Q;simp at Q;rcases Q with rfl | rfl <;> rfl) rfl rfl (by unfold maxLen;omega) vO (fun v' w' X r2 r3=>?_);obtain⟨a5,c5,J⟩:=X.sl;subst J;have K:=Hd X)
  go_ret
  exact⟨_,n+1,rfl,by have:=K.o;rw[<-jjC, <-jaV]at this;exact this⟩
def jre(w0 a b:vW):Prop:=Ext w0 a->Ext w0 b
theorem jnj(w0 x y z:vW)(h:jre w0 x y)(k:jre w0 y z):jre w0 x z:=fun e=>k (h e)
theorem jru(w0 x y:vW)(h:Ext x y):jre w0 x y:=fun e=>e.trans h
theorem jzY(w0 W:vW)(q:vB)(n:PA)(T:TypeId)(x:vV)(Dn:Nat->Prop)(b:Nat)(hB:Blk w0 b (.cells #[.string q,.iface T x] 234))(hv:PaAt n (.iface T x) Dn w0)(hD:∀ x,Dn x->x < w0.heap.size)(p:vB)(v:vV)(m k:Nat)(E:vL)(h:ERow w0 W v m E)(J:Dp n k)(hs:(p++q).size+k<=900000)(hn:m+cntP n<=100000)(hk:EntC n) :
  vQ 241 #[.pointer (some ⟨b,0,none⟩),.string p,v] W (EnP w0 (E++entP n (p++q))):=by
 have Q0:=Hd (hB.cell (i:=0) (v:=.string q) vF);have Q1:=Hd (hB.cell (i:=1) (v:=.iface T x) vF);have O:=Hd h.ext;have HM:=Hd hv.meth;have hz:p.size+q.size<=900000:=by rw[<-jc5];omega
 obtain⟨a,c,Q⟩:=h.sl
 have z:=Hd (show ∀ A,Ext W A->vQ (jgf n) #[x,.string (p++q),v] A (EnP w0 (E++entP n (p++q)))from fun A e=>hk w0 A T x Dn (p++q) v m k E ⟨hv,hD⟩ (h.mono e) J hs hn);subst Q;clear hB hv hD h J hs hn hk;go_enter Tryz.func241,Tryz.ntmps241;go_wp2_with fail
 refine jaC [0,1,2,3,4,5,6,7,8,9,10,11,12,13,14] [13] Ext (jre w0) ExtR ExtT (jnj w0) (jru w0) vY vY vY ?_
 refine vD ?_
 refine qDV _ ((.pointer (some ⟨b,0,none⟩))) rfl (fun w1 _=>by kernel_rfl) ?_;refine vS ?_
 refine vD ?_
 refine qDL ⟨b,1,none⟩ _ rfl (fun w1 X=>jaD (fun w=>by kernel_rfl) (jaa Q1.o (X (O.o.trans (jah _))))) ?_;refine vS ?_;iterate 2 refine vD ?_
 refine qDV _ ((.pointer (some ⟨b,0,none⟩))) rfl (fun w1 _=>by kernel_rfl) ?_;refine vS ?_
 refine vD ?_
 refine qDL ⟨b,0,none⟩ _ rfl (fun w1 X=>jaD (fun w=>by kernel_rfl) (jaa Q0.o (X (O.o.trans (jah _))))) ?_;refine vS ?_;iterate 2 refine vD ?_
 refine qDV _ (.iface T x) rfl (fun w1 _=>by kernel_rfl) ?_;refine vS ?_
 refine vD ?_
 refine qDH _ rfl (fun A hb K Z=>?_);have kb:Ext W A:=(jah _).trans hb;refine jbK (jcL (f:=jgf n) (vs:=#[.string (p++q),.slice a m c]) rfl (HM.o.ent _) (jep _) vY) ?_;refine (z.o A kb).mono ?_;rintro e w2 ⟨v2,m2,rfl,H⟩
 refine⟨v2,rfl,Z _ _ (fun _=>H.ext) ?_⟩
 have HS:=Hd H;clear Z K hb kb H;refine vS ?_
 refine vD ?_
 refine qDE (fun wd J=>?_);have HQ:=Hd J;clear J;go_wp2_with fail
 go_ret
 exact⟨_,_,rfl,HS.o.mono HQ.o⟩
def entK(ks:Nat->PA)(p:vB)(k:Nat):vL:=(List.range k).flatMap fun i=>if (ks i).isNil then []else entP (ks i) (p++nib1 i)
theorem jix(ks:Nat->PA)(p:vB)(k:Nat):entK ks p (k+1)=entK ks p k++(if (ks k).isNil then []else entP (ks k) (p++nib1 k)):=by
 unfold entK;rw[fS,dR]
 simp
theorem jky(ks:Nat->PA)(p:vB)(k:Nat):(entK ks p k).length<=sumF (fun i=>cntP (ks i)) k:=jgE _ _ (fun i=>by
 show (if (ks i).isNil=true then ([]:vL)else entP (ks i) (p++nib1 i)).length<=cntP (ks i);split
 ·simp
 ·exact jnF (ks i) _) k
theorem jeA(f:Nat->Nat)(k:Nat):∀ d,sumF f k<=sumF f (k+d)
 | 0=>bL _
 | d+1=>bK (jeA f k d) (Nat.le_add_right _ _)
def jw8(w0:vW)(ks:Nat->PA)(p:vB)(E:vL)(tv iv:vV)(wr:vW):Prop:=∃ (k m:Nat),k<=16/\iv=.int .i64 (k:Int)/\ERow w0 wr tv m (E++entK ks p k)
theorem jku(w:vW){m:Nat}(hm:m < 16):(convert 132 9 (.slice (some ⟨w.heap.size,0,none⟩) 1 1)).run Tryz.prog (w.alloc (.cells #[.int .u8 (m:Int)] 5))=.ok (.string (nib1 m)) (w.alloc (.cells #[.int .u8 (m:Int)] 5)):=by
 have e:(m:Int)=((UInt8.ofNat m).toNat:Int):=by rw[jok m vO]
 rw[e];exact Tryz.run_lit1 w (UInt8.ofNat m)
structure BrRd(u:vB)(ks:Nat->PA)(b:Nat)(vk:Nat->Value)(Dk:Nat->Nat->Prop)(W:World):Prop where
 blk:Blk W b (.cells (brC u vk).toArray 238)
 kid:∀ i,i < 16->PaO (ks i) (vk i) (Dk i) W
theorem jrG(w0 W:vW)(u p:vB)(ks:Nat->PA)(b:Nat)(vk:Nat->vV)(Dk:Nat->Nat->Prop)(hb:BrRd u ks b vk Dk w0)(v:vV)(n kk:Nat)(E:vL)(h:ERow w0 W v n E)(hd:Dp (.br u ks) kk)(hs:p.size+kk<=900000)(hn:n+1+sumF (fun i=>cntP (ks i)) 16<=100000)(ih:∀ i,i < 16->(ks i).isNil=false->EntC (ks i))(ho:jdh p=false) :
  vQ 248 #[.pointer (some ⟨b,0,none⟩),.string p,v] W (EnP w0 (E++entK ks p 16)):=by
 have H:=Hd hb;have a9:=Hd hd;have a5:=Hd hs;have b0:=Hd ih;have b3:=Hd h.ext;have H0:=Hd h;have b4:=h.len';have q0:=jaa (hb.blk.cellL (i:=0) (v:=.string u) vF) h.ext;have O:=jbi (hb.blk.keeps h.ext (fun e=>e));have c1:(⟨#[]⟩:vB).toList.isEmpty=true:=by rw[bO];rfl
 have c4:=jkN;have A:=jsC W p vO;unfold keyV at A
 obtain⟨a,c,a4⟩:=h.sl
 rw[ho,if_neg ff]at A;have HK:=Hd A;have b5:=Hd (show E.length+sumF (fun i=>cntP (ks i)) 16<=100000 by omega);have hB:=Hd hb.blk;clear hb hd hs ih h hn ho A O;subst a4;go_enter Tryz.func248,Tryz.ntmps248;go_wp2_with fail
 refine HK.o.mono ?_;rintro e w1 ⟨rfl,hE⟩;have O:=jbi (hB.o.keeps (b3.o.trans hE) (fun e=>e));have b6:=Hd (H0.o.mono hE);clear hE q0;clear b4;go_wp2_with (refine jae 236 (.tmp 35) rfl rfl _ _ rfl O ?_)
 go_loopw [2,37] (fun tv iv wr=>jw8 w0 ks p E tv iv wr) (fun _ iv _=>16 - (intOf iv).toNat)
 case atStart=>exact⟨0,n,by omega,rfl,by rw[show entK ks p 0=[]from rfl,bW];exact b6.o⟩
 case round =>
  obtain⟨k,m,hk,rfl,hR⟩:=hrel
  have Q:=Hd hR;have a6:m<=E.length+sumF (fun i=>cntP (ks i)) k:=by
   have h1:=hR.len';have h2:=jky ks p k;rw[bC]at h1;omega
  have b7:=Hd a6
  obtain⟨a2,c2,J⟩:=hR.sl
  clear hR a6
  by_cases hlt:k < 16
  ·have a7:=jeW vk hlt
   have z:=jix ks p k;rcases (H.o.kid k hlt).at'.kid with⟨hn,hv⟩ |⟨hn,T,x,hv⟩
   ·rw[hn,if_pos rfl,bW]at z
    rw[hv]at a7;have X:=Hd z;clear z hn hv;subst J;go_wp2;go_roundw
    case rel=>exact⟨k+1,m,by omega,by go_num,by rw[X.o];exact Q.o⟩
    case measure=>exact vJ
   ·rw[hn,if_neg ff]at z
    rw[hv]at a7;have hq:=jdA T x;have K:=H.o.kid k hlt;rw[hv]at K;have a8:=K.at'.meth;have c5:∀ w,(Go.method (420+1) T x "guilloche/trie.entries").run Tryz.prog w=.ok (jgf (ks k),x) w:=a8.ent;have c6:=jep (ks k);have c7:=jku wr hlt;have Z:=a9.o k hn;have b8:sumF (fun i=>cntP (ks i)) k+cntP (ks k)<=sumF (fun i=>cntP (ks i)) 16:=by
     have h1:=jeA (fun i=>cntP (ks i)) (k+1) (15 - k);rw[show k+1+(15 - k)=16 by omega]at h1;exact h1
    have a0:=Hd (show ∀ wb,Ext wr wb->vQ (jgf (ks k)) #[x,.string (p++nib1 k),.slice a2 m c2] wb (EnP w0 (E++entK ks p k++entP (ks k) (p++nib1 k)))from fun wb e=>b0.o k hlt hn w0 wb T x (Dk k) (p++nib1 k) _ m (kk - 1) _ K (by rw[<-J];exact Q.o.mono e) Z.2 (by rw[jc5];have:(nib1 k).size=1:=rfl;have:=a5.o;have:=Z.1;omega) (by have:=b7.o;have:=b5.o;omega));have X:=Hd z;have b1:(k:Int) < 256:=vO
    have c8:p.size+(nib1 k).size<=900001:=by have:(nib1 k).size=1:=rfl;have:=a5.o;omega
    have b2:(k:Int) < 16:=vO
    clear z hn hv K a8 Z b8;subst J;go_wp2_with fail
    refine (a0.o _ ((ExtR wr).alloc _)).mono ?_;rintro e w2 ⟨v2,m2,rfl,a1⟩;have b9:=Hd a1
    obtain⟨a3,c3,c0⟩:=a1.sl
    subst c0;clear a1;go_wp2_with fail
    go_roundw
    case rel=>exact⟨k+1,m2,by omega,by go_num,by rw[X.o, <-cD];exact b9.o⟩
    case measure=>exact vJ
  ·obtain rfl:k=16:=vO
   subst J;go_wp2_with fail
   go_ret
   exact⟨_,_,rfl,Q.o⟩
theorem juL(w0 W:vW)(u p:vB)(ks:Nat->PA)(b:Nat)(vk:Nat->vV)(Dk:Nat->Nat->Prop)(hb:BrRd u ks b vk Dk w0)(v:vV)(n kk:Nat)(E:vL)(h:ERow w0 W v n E)(hd:Dp (.br u ks) kk)(hs:p.size+kk<=900000)(hn:n+1+sumF (fun i=>cntP (ks i)) 16<=100000)(ih:∀ i,i < 16->(ks i).isNil=false->EntC (ks i))(ho:jdh p=true)(hu:u.size≠0) :
  vQ 248 #[.pointer (some ⟨b,0,none⟩),.string p,v] W (EnP w0 ((E++[(jbt p,u)])++entK ks p 16)):=by
 have H:=Hd hb;have b3:=Hd hd;have a6:=Hd hs;have b4:=Hd ih;have c7:=Hd h.ext;have H0:=Hd h;have b5:=h.len';have q0:=jaa (hb.blk.cellL (i:=0) (v:=.string u) vF) h.ext;have O:=jbi (hb.blk.keeps h.ext (fun e=>e));have c8:(⟨#[]⟩:vB).toList.isEmpty=true:=by rw[bO];rfl
 have c9:=jkN;have A:=jsC W p vO;unfold keyV at A
 obtain⟨a,c,a4⟩:=h.sl
 rw[ho,if_pos rfl]at A;have HK:=Hd A;have d0:=jc2 hu;have b6:=Hd (show (E++[(jbt p,u)]).length+sumF (fun i=>cntP (ks i)) 16<=100000 by rw[bC,jE];omega);have hB:=Hd hb.blk;have Q0:=Hd q0;have c6:n<=100000:=vO
 clear hb hd hs ih h hn ho A O hu q0;subst a4;go_enter Tryz.func248,Tryz.ntmps248;go_wp2_with fail
 refine HK.o.mono ?_;rintro e w1 ⟨rfl,hE⟩;have q0:=jaa Q0.o hE;have b7:=Hd (H0.o.mono hE);clear hE b5;go_wp2_with (first |(at_builtin;refine jaK Tryz.sEnts (b7.o.mono ((ExtR w1).alloc _)) (.tmp 24) (.tmp 31) rfl rfl rfl (jaI (Blk.new w1 _)) (news:=[.string (jbt p),.string u]) (by intro u hu;simp at hu;rcases hu with rfl | rfl <;> rfl) rfl rfl (by unfold maxLen;omega) vO (fun v' w' r1 r2 r3=>?_);obtain⟨a5,c5,b8⟩:=r1.sl;subst b8;have a7:Hid (ERow w0 w' (.slice a5 (n+1) c5) (n+1) (E++[(jbt p,u)])):=Hd (by rw[<-jjC, <-jaV]at r1;exact r1);have O:=jbi (hB.o.keeps a7.o.ext (fun e=>e))) |(refine jae 236 (.tmp 35) rfl rfl _ _ rfl O ?_))
 go_loopw [2,37] (fun tv iv wr=>jw8 w0 ks p (E++[(jbt p,u)]) tv iv wr) (fun _ iv _=>16 - (intOf iv).toNat)
 case atStart=>exact⟨0,(n+1),by omega,rfl,by rw[show entK ks p 0=[]from rfl,bW];exact a7.o⟩
 case round =>
  obtain⟨k,m,hk,rfl,hR⟩:=hrel
  have Q:=Hd hR;have a8:m<=(E++[(jbt p,u)]).length+sumF (fun i=>cntP (ks i)) k:=by
   have h1:=hR.len';have h2:=jky ks p k;rw[bC]at h1;omega
  have b9:=Hd a8
  obtain⟨a2,c2,J⟩:=hR.sl
  clear hR a8
  by_cases hlt:k < 16
  ·have a9:=jeW vk hlt
   have z:=jix ks p k;rcases (H.o.kid k hlt).at'.kid with⟨hn,hv⟩ |⟨hn,T,x,hv⟩
   ·rw[hn,if_pos rfl,bW]at z
    rw[hv]at a9;have X:=Hd z;clear z hn hv;subst J;go_wp2;go_roundw
    case rel=>exact⟨k+1,m,by omega,by go_num,by rw[X.o];exact Q.o⟩
    case measure=>exact vJ
   ·rw[hn,if_neg ff]at z
    rw[hv]at a9;have hq:=jdA T x;have K:=H.o.kid k hlt;rw[hv]at K;have b0:=K.at'.meth;have d1:∀ w,(Go.method (420+1) T x "guilloche/trie.entries").run Tryz.prog w=.ok (jgf (ks k),x) w:=b0.ent;have d2:=jep (ks k);have d3:=jku wr hlt;have Z:=b3.o k hn;have c0:sumF (fun i=>cntP (ks i)) k+cntP (ks k)<=sumF (fun i=>cntP (ks i)) 16:=by
     have h1:=jeA (fun i=>cntP (ks i)) (k+1) (15 - k);rw[show k+1+(15 - k)=16 by omega]at h1;exact h1
    have a0:=Hd (show ∀ wb,Ext wr wb->vQ (jgf (ks k)) #[x,.string (p++nib1 k),.slice a2 m c2] wb (EnP w0 ((E++[(jbt p,u)])++entK ks p k++entP (ks k) (p++nib1 k)))from fun wb e=>b4.o k hlt hn w0 wb T x (Dk k) (p++nib1 k) _ m (kk - 1) _ K (by rw[<-J];exact Q.o.mono e) Z.2 (by rw[jc5];have:(nib1 k).size=1:=rfl;have:=a6.o;have:=Z.1;omega) (by have:=b9.o;have:=b6.o;omega));have X:=Hd z;have b1:(k:Int) < 256:=vO
    have d4:p.size+(nib1 k).size<=900001:=by have:(nib1 k).size=1:=rfl;have:=a6.o;omega
    have b2:(k:Int) < 16:=vO
    clear z hn hv K b0 Z c0;subst J;go_wp2_with fail
    refine (a0.o _ ((ExtR wr).alloc _)).mono ?_;rintro e w2 ⟨v2,m2,rfl,a1⟩;have c1:=Hd a1
    obtain⟨a3,c3,c4⟩:=a1.sl
    subst c4;clear a1;go_wp2_with fail
    go_roundw
    case rel=>exact⟨k+1,m2,by omega,by go_num,by rw[X.o, <-cD];exact c1.o⟩
    case measure=>exact vJ
  ·obtain rfl:k=16:=vO
   subst J;go_wp2_with fail
   go_ret
   exact⟨_,_,rfl,Q.o⟩
theorem juK(w0 W:vW)(u p:vB)(ks:Nat->PA)(b:Nat)(vk:Nat->vV)(Dk:Nat->Nat->Prop)(hb:BrRd u ks b vk Dk w0)(v:vV)(n kk:Nat)(E:vL)(h:ERow w0 W v n E)(hd:Dp (.br u ks) kk)(hs:p.size+kk<=900000)(hn:n+1+sumF (fun i=>cntP (ks i)) 16<=100000)(ih:∀ i,i < 16->(ks i).isNil=false->EntC (ks i))(ho:jdh p=true)(hu:u.size=0) :
  vQ 248 #[.pointer (some ⟨b,0,none⟩),.string p,v] W (EnP w0 (E++entK ks p 16)):=by
 have H:=Hd hb;have a9:=Hd hd;have a5:=Hd hs;have b0:=Hd ih;have b3:=Hd h.ext;have H0:=Hd h;have b4:=h.len';have q0:=jaa (hb.blk.cellL (i:=0) (v:=.string u) vF) h.ext;have O:=jbi (hb.blk.keeps h.ext (fun e=>e));have c4:(⟨#[]⟩:vB).toList.isEmpty=true:=by rw[bO];rfl
 have c5:=jkN;have A:=jsC W p vO;unfold keyV at A
 obtain⟨a,c,a4⟩:=h.sl
 rw[ho,if_pos rfl]at A;have HK:=Hd A;have b5:=jbq hu;subst b5;have b6:=Hd (show E.length+sumF (fun i=>cntP (ks i)) 16<=100000 by omega);have hB:=Hd hb.blk;have Q0:=Hd q0;clear hb hd hs ih h hn ho A O hu q0;subst a4;go_enter Tryz.func248,Tryz.ntmps248;go_wp2_with fail
 refine HK.o.mono ?_;rintro e w1 ⟨rfl,hE⟩;have q0:=jaa Q0.o hE;have O:=jbi (hB.o.keeps (b3.o.trans hE) (fun e=>e));have b7:=Hd (H0.o.mono hE);clear hE b4;go_wp2_with (refine jae 236 (.tmp 35) rfl rfl _ _ rfl O ?_)
 go_loopw [2,37] (fun tv iv wr=>jw8 w0 ks p E tv iv wr) (fun _ iv _=>16 - (intOf iv).toNat)
 case atStart=>exact⟨0,n,by omega,rfl,by rw[show entK ks p 0=[]from rfl,bW];exact b7.o⟩
 case round =>
  obtain⟨k,m,hk,rfl,hR⟩:=hrel
  have Q:=Hd hR;have a6:m<=E.length+sumF (fun i=>cntP (ks i)) k:=by
   have h1:=hR.len';have h2:=jky ks p k;rw[bC]at h1;omega
  have b8:=Hd a6
  obtain⟨a2,c2,J⟩:=hR.sl
  clear hR a6
  by_cases hlt:k < 16
  ·have a7:=jeW vk hlt
   have z:=jix ks p k;rcases (H.o.kid k hlt).at'.kid with⟨hn,hv⟩ |⟨hn,T,x,hv⟩
   ·rw[hn,if_pos rfl,bW]at z
    rw[hv]at a7;have X:=Hd z;clear z hn hv;subst J;go_wp2;go_roundw
    case rel=>exact⟨k+1,m,by omega,by go_num,by rw[X.o];exact Q.o⟩
    case measure=>exact vJ
   ·rw[hn,if_neg ff]at z
    rw[hv]at a7;have hq:=jdA T x;have K:=H.o.kid k hlt;rw[hv]at K;have a8:=K.at'.meth;have c6:∀ w,(Go.method (420+1) T x "guilloche/trie.entries").run Tryz.prog w=.ok (jgf (ks k),x) w:=a8.ent;have c7:=jep (ks k);have c8:=jku wr hlt;have Z:=a9.o k hn;have b9:sumF (fun i=>cntP (ks i)) k+cntP (ks k)<=sumF (fun i=>cntP (ks i)) 16:=by
     have h1:=jeA (fun i=>cntP (ks i)) (k+1) (15 - k);rw[show k+1+(15 - k)=16 by omega]at h1;exact h1
    have a0:=Hd (show ∀ wb,Ext wr wb->vQ (jgf (ks k)) #[x,.string (p++nib1 k),.slice a2 m c2] wb (EnP w0 (E++entK ks p k++entP (ks k) (p++nib1 k)))from fun wb e=>b0.o k hlt hn w0 wb T x (Dk k) (p++nib1 k) _ m (kk - 1) _ K (by rw[<-J];exact Q.o.mono e) Z.2 (by rw[jc5];have:(nib1 k).size=1:=rfl;have:=a5.o;have:=Z.1;omega) (by have:=b8.o;have:=b6.o;omega));have X:=Hd z;have b1:(k:Int) < 256:=vO
    have c9:p.size+(nib1 k).size<=900001:=by have:(nib1 k).size=1:=rfl;have:=a5.o;omega
    have b2:(k:Int) < 16:=vO
    clear z hn hv K a8 Z b9;subst J;go_wp2_with fail
    refine (a0.o _ ((ExtR wr).alloc _)).mono ?_;rintro e w2 ⟨v2,m2,rfl,a1⟩;have c0:=Hd a1
    obtain⟨a3,c3,c1⟩:=a1.sl
    subst c1;clear a1;go_wp2_with fail
    go_roundw
    case rel=>exact⟨k+1,m2,by omega,by go_num,by rw[X.o, <-cD];exact c0.o⟩
    case measure=>exact vJ
  ·obtain rfl:k=16:=vO
   subst J;go_wp2_with fail
   go_ret
   exact⟨_,_,rfl,Q.o⟩
end
theorem jnX:∀ (P:PA),EntC P
 | .nil=>fun o W T x D p v n k E h _ _ _ _=>by cases h.at'
 | .no=>fun o W T x D p v n k E h A _ _ _=>by
  have e:Value.iface T x=noV:=h.at';unfold noV at e;injection e with e1 e2;subst e1 e2;show Calls _ _ _ W (EnP o (E++[]));rw[bW];exact jyb o W p v n E A
 | .leaf q u=>fun o W T x D p v n k E h A H K J=>by
  obtain⟨b,e,h1,O⟩:=h.at'
  unfold jjo at e;injection e with e1 e2;subst e1 e2;have H:q.size<=k:=H;have J:n+1<=100000:=J;exact jAf o W q u p b O v n E A vO vO
 | .ext q m=>fun o W T x D p v n k E h A H K J=>by
  obtain⟨b,T',x',Dn,e,h1,O,Z,h4,h5⟩:=h.at'
  unfold extV at e;injection e with e1 e2;subst e1 e2;have J:n+(1+cntP m)<=100000:=J;have h1:=H.1;exact jzY o W q m T' x' Dn b O Z (fun z hz=>h.lt z (h5 z hz)) p v n (k - q.size) E A H.2 (by rw[jc5];omega) vO (jnX m)
 | .br u ks=>fun o W T x D p v n k E h A H K J=>by
  obtain⟨b,Q,X,e,h1,O,Z,h4⟩:=h.at'
  unfold brV at e;injection e with e1 e2;subst e1 e2;have hb:BrRd u ks b Q X o:=⟨O,fun i hi=>⟨(Z i hi).1,fun z hz=>h.lt z ((Z i hi).2.2 z hz)⟩⟩;have J:n+(1+sumF (fun i=>cntP (ks i)) 16)<=100000:=J;have ih:∀ i,i < 16->(ks i).isNil=false->EntC (ks i):=fun i _ _=>jnX (ks i);show Calls _ _ _ W (EnP o (E++((if u.size=0 then []else keyR p u)++entK ks p 16)));unfold keyR;rw[<-cD]
  by_cases hu:u.size=0
  ·rw[if_pos hu,bW]
   cases ho:jdh p with
   | true=>exact juK o W u p ks b Q X hb v n k E A H K vO ih ho hu
   | false=>exact jrG o W u p ks b Q X hb v n k E A H K vO ih ho
  ·rw[if_neg hu]
   cases ho:jdh p with
   | true=>rw[if_pos rfl];exact juL o W u p ks b Q X hb v n k E A H K vO ih ho hu
   | false=>rw[if_neg ff,bW];exact jrG o W u p ks b Q X hb v n k E A H K vO ih ho
section
attribute [local go_sem] Oper.semAt_some
def jgv(k:Key)(L:vT):vT:=L.map fun x=>if x.1=k then (x.1,x.2.1,putF 2 (x.2.2.used+1) x.2.2)else x
def jeJ(T:vM)(L:vT):vT:=T.foldl (fun L r=>jgv r.data.toList L) L
theorem jqj(T:vM)(r:vB)(L:vT):jeJ (T++[r]) L=jgv r.data.toList (jeJ T L):=by unfold jeJ;rw[dX];rfl
theorem jqi(k:Key)(L:vT):(jgv k L).map (·.1)=L.map (·.1):=by
 unfold jgv;rw[dJ];refine dI (fun x _=>?_);simp only[Function.comp];split <;> rfl
theorem jqh(k:Key)(L:vT):(jgv k L).map (·.2.1)=L.map (·.2.1):=by
 unfold jgv;rw[dJ];refine dI (fun x _=>?_);simp only[Function.comp];split <;> rfl
theorem jhb:∀ (T:vM) (L:vT),(jeJ T L).map (·.1)=L.map (·.1)
 | [],_=>rfl
 | r :: T,L=>by
  show (jeJ T (jgv r.data.toList L)).map (·.1)=_;rw[jhb T,jqi]
theorem jha:∀ (T:vM) (L:vT),(jeJ T L).map (·.2.1)=L.map (·.2.1)
 | [],_=>rfl
 | r :: T,L=>by
  show (jeJ T (jgv r.data.toList L)).map (·.2.1)=_;rw[jha T,jqh]
theorem jot{A B:vT}(h:A.map (·.1)=B.map (·.1))(k:Key):(atL A k).isSome=(atL B k).isSome:=by
 have e:∀ L:vT,(atL L k).isSome=(L.map (·.1)).any (fun y=>decide (k=y)):=fun L=>by
  unfold atL;rw[List.isSome_find?,List.any_map];rfl
 rw[e,e,h]
theorem jjy:∀ (T:vM) (L:vT) (lo hi:Int),(∀ x∈L,lo<=x.2.2.used/\x.2.2.used<=hi)->∀ x∈jeJ T L,lo<=x.2.2.used/\x.2.2.used<=hi+T.length
 | [],L,lo,hi,h=>fun x e=>by have:=h x e;simp;exact this
 | r :: T,L,lo,hi,h=>fun x e=>by
  have:=jjy T (jgv r.data.toList L) lo (hi+1) (fun y o=>by
   obtain⟨z,A,rfl⟩:=bJ.1 o
   have:=h z A
   split
   ·simp only[putF,if_true];omega
   ·omega) x e
  rw[bF];omega
def kvR(x:Nd5):Nat × vB × vM:=(x.2.1,x.2.2.text,x.2.2.refs)
def Like(W:vW)(bg:Nat)(G:vT):Prop:=∃ G',jdr W bg G'/\∀ k,(atL G' k).map kvR=(atL G k).map kvR
theorem juF(f c:Nat)(v:Int)(L:vT)(k:Key):atL (L.map (setB f c v)) k=(atL L k).map (setB f c v):=by
 unfold atL;rw[List.find?_map]
 congr 1
 refine congrFun (congrArg _ (funext fun x=>?_)) L;simp only[Function.comp,setB];split <;> rfl
theorem jvz(f c:Nat)(v:Int)(x:Nd5):kvR (setB f c v x)=kvR x:=by
 unfold setB kvR putF
 by_cases e:x.2.1=c
 ·rw[if_pos e]
  by_cases e2:f=2
  ·rw[if_pos e2]
  ·rw[if_neg e2]
 ·rw[if_neg e]
theorem Like.setF{W:vW}{bg:Nat}{G:vT}(h:Like W bg G){c:Nat}{it:It}(hc:jeY W c it){f:Nat}(hf:f=2\/f=3)(v:Int):Like (W.setCell ⟨c,f,none⟩ (.int .i64 v)) bg G:=by
 obtain⟨z,e,o⟩:=h
 refine⟨_,e.setF hc hf v,fun k=>?_⟩
 rw[juF,Option.map_map, <-o k]
 congr 1
 funext x
 exact jvz f c v x
theorem jt0{W:vW}{bm:Nat}{L:vT}(h:jdr W bm L){k:Key}{y:Nd5}(hy:atL L k=some y):L.map (setB 2 y.2.1 (y.2.2.used+1))=jgv k L:=by
 obtain⟨H,J,_,A⟩:=h.mp
 have o:=A.keys;rw[dJ]at o;have o:(L.map (·.1)).Nodup:=o;unfold jgv;refine dI (fun x z=>?_);unfold setB
 by_cases e:x.2.1=y.2.1
 ·have:x=y:=jbH h.blks z (jbd hy).1 e
  subst this;rw[if_pos rfl,if_pos (jbd hy).2]
 ·rw[if_neg e,if_neg]
  intro E
  have:x=y:=jbH o z (jbd hy).1 (E.trans (jbd hy).2.symm)
  subst this;exact e rfl
structure Ad2(w5:World)(s bm bg:Nat)(room:Int)(S1 G:vT)(F:vM)(v:Value)(T:vM)(W:World):Prop where
 kp:jaf (fun z=>z∈S1.map (·.2.1)) w5 W
 st:jaS W s bm room (jeJ T S1)
 gv:Like W bg G
 row:W.ownsRow 0 9 1 v F.length (F.map Value.string)
theorem Ad2.bump{w5:vW}{s bm bg:Nat}{room:Int}{S1 G:vT}{F:vM}{v:vV}{T:vM}{W:vW}(h:Ad2 w5 s bm bg room S1 G F v T W)
  (hu:∀ x∈S1,0<=x.2.2.used/\x.2.2.used<=1000000000) (hT:T.length<=1000000) (r:vB) (hr:(atL S1 r.data.toList).isSome=true) :
  ∃ (zb:Nat) (u:Int),(Instr.lookup 70 (.map (some bm)) (.string r) false).run Tryz.prog W=.ok (.pointer (some ⟨zb,0,none⟩)) W/\W.cell? ⟨zb,2,none⟩=some (.int .i64 u)/\W.frozen? ⟨zb,2,none⟩=false/\0<=u/\u<=2000000000 /\
   Ad2 w5 s bm bg room S1 G F v (T++[r]) (W.setCell ⟨zb,2,none⟩ (.int .i64 (u+1)))/\∀ E n xs,W.ownsRow 0 9 1 E n xs->(W.setCell ⟨zb,2,none⟩ (.int .i64 (u+1))).ownsRow 0 9 1 E n xs:=by
 have X:(atL (jeJ T S1) r.data.toList).isSome=true:=by rw[jot (jhb T S1)];exact hr
 obtain⟨y,J⟩:=fG.1 X
 have o:=(jbd J).1;have K:=h.st.mp.items y o
 obtain⟨E,hb,Z⟩:=K.cells
 have A:=h.st.mp.look r false;rw[J]at A;simp only[cI,if_false]at A;have H:jaf (fun z=>z=y.2.1) W (W.setCell ⟨y.2.1,2,none⟩ (.int .i64 (y.2.2.used+1))):=jaf.oneSet W ⟨y.2.1,2,none⟩ _;have hN:jjk W (fun z=>z=y.2.1):=fun z a0 fz e hz=>by
  have e:z=y.2.1:=e;subst e
  have:=hb.uniq hz;injection this with _ h2;exact absurd h2 vI
 have O:y.2.1∈S1.map (·.2.1):=by rw[<-jha T S1];exact bJ.2 ⟨y,o,rfl⟩
 have Q:=jjy T S1 0 1000000000 hu y o
 refine⟨y.2.1,y.2.2.used,A,hb.cell (i:=2) vF,hb.frozen,Q.1,by omega,⟨h.kp.trans (H.mono (fun z _ e=>by have e:z=_:=e;rw[e];exact O)),⟨h.st.st.keeps H (fun e=>?_),?_⟩,h.gv.setF K (.inl rfl) _,jgW h.row H hN⟩,fun E n xs hx=>jgW hx H hN⟩
 ·have e:s=y.2.1:=e
  rw[e]at h
  have:=hb.uniq h.st.st;injection this with _ h2;exact absurd h2 vI
 ·rw[jqj, <-jt0 h.st.mp J]
  exact h.st.mp.setF K (.inl rfl) _
def jkq(k:Key)(L:vT):vT:=L.map fun x=>if x.1=k then (x.1,x.2.1,putF 3 (x.2.2.held+1) x.2.2)else x
theorem jq5{W:vW}{bm:Nat}{L:vT}(h:jdr W bm L){k:Key}{y:Nd5}(hy:atL L k=some y):L.map (setB 3 y.2.1 (y.2.2.held+1))=jkq k L:=by
 obtain⟨H,J,_,A⟩:=h.mp
 have o:=A.keys;rw[dJ]at o;have o:(L.map (·.1)).Nodup:=o;unfold jkq;refine dI (fun x z=>?_);unfold setB
 by_cases e:x.2.1=y.2.1
 ·have:x=y:=jbH h.blks z (jbd hy).1 e
  subst this;rw[if_pos rfl,if_pos (jbd hy).2]
 ·rw[if_neg e,if_neg]
  intro E
  have:x=y:=jbH o z (jbd hy).1 (E.trans (jbd hy).2.symm)
  subst this;exact e rfl
theorem jjx:∀ (T:vM) (L:vT) (lo hi:Int),(∀ x∈L,lo<=x.2.2.held/\x.2.2.held<=hi)->∀ x∈jeJ T L,lo<=x.2.2.held/\x.2.2.held<=hi
 | [],L,lo,hi,h=>fun x e=>h x e
 | r :: T,L,lo,hi,h=>fun x e=>by
  refine jjx T (jgv r.data.toList L) lo hi (fun y o=>?_) x e
  obtain⟨z,A,rfl⟩:=bJ.1 o
  have:=h z A
  split
  ·simp only[putF,if_true];exact this
  ·exact this
theorem Ad2.hold{w5:vW}{s bm bg:Nat}{room:Int}{S1 G:vT}{F:vM}{v:vV}{T:vM}{W:vW}(h:Ad2 w5 s bm bg room S1 G F v T W)
  (hu:∀ x∈S1,0<=x.2.2.held/\x.2.2.held<=1000000000) (r:vB) (hr:(atL S1 r.data.toList).isSome=true) :
  ∃ (zb:Nat) (u:Int),(Instr.lookup 70 (.map (some bm)) (.string r) false).run Tryz.prog W=.ok (.pointer (some ⟨zb,0,none⟩)) W/\W.cell? ⟨zb,3,none⟩=some (.int .i64 u)/\W.frozen? ⟨zb,3,none⟩=false/\0<=u/\u<=1000000000 /\
   jaS (W.setCell ⟨zb,3,none⟩ (.int .i64 (u+1))) s bm room (jkq r.data.toList (jeJ T S1))/\jaf (fun z=>z∈S1.map (·.2.1)) w5 (W.setCell ⟨zb,3,none⟩ (.int .i64 (u+1))):=by
 have Q:(atL (jeJ T S1) r.data.toList).isSome=true:=by rw[jot (jhb T S1)];exact hr
 obtain⟨y,H⟩:=fG.1 Q
 have o:=(jbd H).1;have K:=h.st.mp.items y o
 obtain⟨Z,hb,X⟩:=K.cells
 have A:=h.st.mp.look r false;rw[H]at A;simp only[cI,if_false]at A;have O:jaf (fun z=>z=y.2.1) W (W.setCell ⟨y.2.1,3,none⟩ (.int .i64 (y.2.2.held+1))):=jaf.oneSet W ⟨y.2.1,3,none⟩ _;have J:y.2.1∈S1.map (·.2.1):=by rw[<-jha T S1];exact bJ.2 ⟨y,o,rfl⟩
 have E:=jjx T S1 0 1000000000 hu y o
 refine⟨y.2.1,y.2.2.held,A,hb.cell (i:=3) vF,hb.frozen,E.1,E.2,⟨h.st.st.keeps O (fun e=>?_),?_⟩,h.kp.trans (O.mono (fun z _ e=>by have e:z=_:=e;rw[e];exact J))⟩
 ·have e:s=y.2.1:=e
  rw[e]at h
  have:=hb.uniq h.st.st;injection this with _ h2;exact absurd h2 vI
 ·rw[<-jq5 h.st.mp H]
  exact h.st.mp.setF K (.inr rfl) _
def jcX(G:vT)(F:vM):vT:=F.filterMap fun x=>atL G x.data.toList
theorem jqS{G:vT}{F:vM}{i:Nat}{x:vB}{y:Nd5}(hx:F[i]?=some x)(hy:atL G x.data.toList=some y):jcX G (F.take (i+1))=jcX G (F.take i)++[y]:=by
 unfold jcX;rw[bY,hx,List.filterMap_append];simp[hy]
theorem jb5{G:vT}{F:vM}{y:Nd5}(h:y∈jcX G F):y∈G/\∃ x∈F,y.1=x.data.toList:=by
 obtain⟨x,o,e⟩:=List.mem_filterMap.1 h
 exact⟨(jbd e).1,x,o,(jbd e).2⟩
theorem jxo{A B:vT}{k:Key}(h:∀ x∈B,k≠x.1):atL (A++B) k=atL A k:=by
 unfold atL;rw[List.find?_append]
 have:B.find? (fun x=>decide (k=x.1))=none:=by rw[List.find?_eq_none];simpa using h
 rw[this];simp
theorem jdr.notRow{W:vW}{bm:Nat}{L:vT}(h:jdr W bm L):jjk W (fun z=>z=bm):=fun z o H e A=>by
 obtain⟨J,K,E,_⟩:=h.mp
 have e:z=bm:=e;subst e
 have:=E.uniq A;cases this
structure Ad1(w4:World)(s bm bg:Nat)(room:Int)(S G:vT)(F:vM)(v:Value)(i:Nat)(W:World):Prop where
 kp:jaf (fun z=>z=bm) w4 W
 st:jaS W s bm room (S++jcX G (F.take i))
 gv:jdr W bg G
 row:W.ownsRow 0 9 1 v F.length (F.map Value.string)
theorem Ad1.ext{w4:vW}{s bm bg:Nat}{room:Int}{S G:vT}{F:vM}{v:vV}{i:Nat}{W W':vW}(h:Ad1 w4 s bm bg room S G F v i W)(e:Ext W W'):Ad1 w4 s bm bg room S G F v i W':=
 ⟨h.kp.trans (e.mono (fun _ _ g=>g.elim)),h.st.ext e,h.gv.ext e,jbo h.row e⟩
theorem Ad1.put{w4:vW}{s bm bg:Nat}{room:Int}{S G:vT}{F:vM}{v:vV}{i:Nat}{W:vW}(h:Ad1 w4 s bm bg room S G F v i W)
  (hSG:∀ x∈S,∀ y∈G,x.2.1≠y.2.1) (hbg:bg≠bm) (hv:∀ z,v.ownBlock=some z->z≠bm) (hnd:F.Nodup) (hFS:∀ x∈F,atL S x.data.toList=none)
  {x:vB} {y:Nd5} (hx:F[i]?=some x) (hy:atL G x.data.toList=some y) :
  ∃ o,(Instr.mapUpdate 70 (.map (some bm)) (.string x) (.pointer (some ⟨y.2.1,0,none⟩))).run Tryz.prog W=.ok () (W.putObj bm o)/\Ad1 w4 s bm bg room S G F v (i+1) (W.putObj bm o):=by
 have hk:∀ z∈jcX G (F.take i),x.data.toList≠z.1:=fun z A e=>by
  obtain⟨_,x',O,e'⟩:=jb5 A
  have:=jnq (e.trans e')
  subst this;exact jqP hnd hx O
 have hn:atL (S++jcX G (F.take i)) x.data.toList=none:=by rw[jxo hk];exact hFS x (bI hx)
 have E:=(jbd hy).1;have H:=(jbd hy).2;have J:∀ z∈S++jcX G (F.take i),z.2.1≠y.2.1:=fun z A e=>by
  rcases bT.1 A with A | A
  ·exact hSG z A y E e
  ·have:=jbH h.gv.blks (jb5 A).1 E e
   subst this;exact hk z A H.symm
 obtain⟨o,Q,hA⟩:=h.st.mp.put x hn (h.gv.items y E) J
 have K:jaf (fun z=>z=bm) W (W.putObj bm o):=jaf.onePut W bm o;have hN:=h.st.mp.notRow;have X:∀ {c:Nat} {it:It},jeY W c it->¬ c=bm:=fun hi e=>by
  obtain⟨_,hc,_⟩:=hi.cells
  obtain⟨es,ck,Z,_⟩:=h.st.mp.mp
  subst e
  have:=Z.uniq hc;cases this
 refine⟨o,Q,h.kp.trans K,⟨h.st.st.keeps K (fun e=>?_),?_⟩,h.gv.keeps K hbg (fun z A=>X (h.gv.items z A)) hN,jbc h.row K (fun z A e=>hv z A e)⟩
 ·have e:s=bm:=e
  obtain⟨es,ck,Z,_⟩:=h.st.mp.mp
  subst e
  have:=Z.uniq h.st.st;cases this
 ·rw[jqS hx hy, <-cD]
  have e:(x.data.toList,y.2.1,y.2.2)=y:=by rw[<-H]
  rw[e]at hA;exact hA
theorem jzC(A B:vT)(k:Key):(atL (A++B) k).isSome=((atL A k).isSome ||(atL B k).isSome):=by
 unfold atL;rw[List.find?_append,Option.isSome_or]
def AdR2(w5:vW)(s bm bg:Nat)(room:Int)(S1 G:vT)(F:vM)(v iv:vV)(W:vW):Prop:=∃ i:Nat,i<=F.length/\iv=.int .i64 i/\Ad2 w5 s bm bg room S1 G F v ((F.take i).flatMap (jcc G)) W
def AdR3(w5:vW)(s bm bg:Nat)(room:Int)(S1 G:vT)(F:vM)(v:vV)(T R:vM)(rv jv:vV)(W:vW):Prop:=∃ j:Nat,j<=R.length/\jv=.int .i64 j/\Ad2 w5 s bm bg room S1 G F v (T++R.take j) W/\W.ownsRow 0 9 1 rv R.length (R.map Value.string)
def AdR1(w4:vW)(s bm bg:Nat)(room:Int)(S G:vT)(F:vM)(v iv:vV)(W:vW):Prop:=∃ i:Nat,i<=F.length/\iv=.int .i64 i/\Ad1 w4 s bm bg room S G F v i W
def InjL(l:vM):Prop:=∀ x∈l,∀ y∈l,shaB x=shaB y->x=y
theorem InjL.step{L:vM}{i:Nat}{t:vB}(h:InjL (L.take i))(ht:L[i]?=some t)(hs:∀ x∈L.take i,shaB x=shaB t->x=t):InjL (L.take (i+1)):=by
 intro x o y z e;rw[bY,ht]at o z;rcases bT.1 o with h1 | h1 <;> rcases bT.1 z with h2 | h2
 ·exact h x h1 y h2 e
 ·simp at h2;subst h2;exact hs x h1 e
 ·simp at h1;subst h1;exact (hs y h2 e.symm).symm
 ·simp at h1 h2;rw[h1,h2]
def ApR1(w:vW)(L:vM)(hv iv:vV)(W:vW):Prop:=∃ i:Nat,i<=L.length/\iv=.int .i64 i/\SRow w W hv i ((L.take i).map shaB)/\InjL (L.take i)
def ApR2(w4:vW)(L:vM)(t:vB)(i:Nat)(kv:vV)(W:vW):Prop:=∃ k:Nat,k<=i/\kv=.int .i64 k/\Ext w4 W/\∀ x∈L.take k,shaB x=shaB t->x=t
def ApP(L:vM)(w:vW)(e:Ending)(w':vW):Prop:=∃ b,e=.returned (.bool b)/\(b=true↔InjL L)/\Ext w w'
theorem jnk(w:vW)(hc:jbY w)(v:vV)(L:vM)(hv:RdS w v L)(hl:L.length<=1000000):vQ 29 #[v] w (ApP L w):=by
 obtain⟨a,c,rfl,_⟩:=hv.slice
 have HV:=Hd hv;have HC:=Hd hc;clear hv hc;unfold vQ;go_in;go_wp2_with fail
 go_loopw [3,4] (fun hv iv wr=>ApR1 w L hv iv wr) (fun _ iv _=>L.length - (intOf iv).toNat)
 case atStart=>exact⟨0,cE _,rfl,ORow.nil _ _ (ExtR w),fun x O=>by cases O⟩
 case round =>
  obtain⟨i,hi,rfl,hR,hI⟩:=hrel
  obtain⟨ah,ch,rfl⟩:=hR.sl
  have HR:=Hd hR;have HI:=Hd hI;clear hR hI
  by_cases hlt:i < L.length
  ·have b1:(i:Int) < (L.length:Int):=vO
   obtain⟨t,ht⟩:∃ t,L[i]?=some t:=⟨_,bA hlt⟩
   obtain⟨ax,cx,hh,A⟩:=HV.o.slice
   obtain⟨ba,oa,b0,Z⟩:=A i t ht
   subst b0;cases hh;have q1:=jaa Z HR.o.ext;have HT:=Hd ht;have b4:=Hd Z;have b5:=Hd (show ∀ (j:Nat) x,L[j]?=some x->w.cell? ⟨ba,oa+j,none⟩=some (.string x)from fun j x O=>by
    obtain⟨b',o',e,h⟩:=A j x O
    cases e;exact h)
   clear A Z ht;go_wp2_with fail
   refine vH (of_t _ _ [t] (by simp) (jcm wr [t] 9) (HC.o.ext (HR.o.ext.alloc _))) fun w4 hE=>?_;rw[jdx];have a0:=((ExtR wr).alloc (.cells #[.string t] 9)).trans hE;have a1:=Hd (HR.o.mono a0);have a2:=Hd (HR.o.ext.trans a0)
   obtain⟨sh,a3⟩:=vE (shaB t)
   have a4:=Hd a3;rw[<-a3];clear a0 a3 q1 HR;go_wp2_with fail
   go_loopw [6] (fun kv b6=>ApR2 w4 L t i kv b6) (fun kv _=>i - (intOf kv).toNat)
   case atStart=>exact⟨0,cE _,rfl,ExtR w4,fun x O=>by cases O⟩
   case round =>
    obtain⟨k,hk,rfl,hE,hs⟩:=hrel
    have J:=Hd hE;have HS:=Hd hs;clear hE hs
    by_cases hlt2:k < i
    ·have b2:(k:Int) < (i:Int):=vO
     have b3:(k:Int) < (L.length:Int):=vO
     obtain⟨x,O⟩:∃ x,L[k]?=some x:=⟨_,bA vO⟩
     have Q:((L.take i).map shaB)[k]?=some (shaB x):=by rw[cA,List.getElem?_take,if_pos hlt2,O];rfl
     have a8:=jj0 a1.o.own;have E:∃ bh oh,ah=some ⟨bh,oh,none⟩/\w4.cell? ⟨bh,oh+k,none⟩=some (.string (shaB x)):=by
      rcases a8 with⟨_,_,_,h0⟩ |⟨bq,oq,cq,hh,_,_,A⟩
      ·rw[h0]at Q;cases Q
      ·exact⟨bq,oq,(cW hh).1,A k _ Q⟩
     obtain⟨bh,oh,rfl,E⟩:=E
     obtain⟨sx,a5⟩:=vE (shaB x)
     rw[<-a5]at E;have a9:=Hd a5;have Q1:=Hd (jaa E J.o);have Q2:=Hd (jaa (b5.o k x O) (a2.o.trans J.o));have Q3:=Hd (jaa b4.o (a2.o.trans J.o));have HX:=Hd O;clear O Q a8 E a5;go_wp2_with fail
     refine jag [0,1,2,3,4,5,6,7,8,9,10,11,12,13,14,15,16] Ext ExtR ExtT vY vY vY ?_;iterate 3 refine vK ?_
     refine qKL ⟨bh,oh+k,none⟩ _ rfl (fun w1 H=>jab Tryz.underlying9 rfl (jaa Q1.o ((jah _).trans H))) ?_;refine vS ?_;iterate 3 refine vK ?_
     cases hq:(sx.toList == sh.toList)with
     | false =>
      have HN:=Hd (show shaB x=shaB t->x=t from fun e=>by
       rw[<-a9.o, <-a4.o]at e;rw[e]at hq;simp at hq)
      clear hq;iterate 9 (refine qKS _ rfl ?_;refine vS ?_)
      refine vK ?_
      refine qKE (fun w5 X=>?_);have K:=Hd (J.o.trans ((jah _).trans X));have a6:=Hd (show ∀ z∈L.take (k+1),shaB z=shaB t->z=t from fun z hz e=>by
       rw[bY,HX.o]at hz;rcases bT.1 hz with H | H
       ·exact HS.o z H e
       ·simp at H;subst H;exact HN.o e)
      clear X Q1 Q2 Q3 J HS;go_wp2_with fail
      go_roundw
      case rel=>exact⟨k+1,by omega,by go_num,K.o,a6.o⟩
      case measure=>exact vJ
     | true =>
      have b7:=Hd (show shaB x=shaB t by rw[<-a9.o, <-a4.o];exact jdL (by simpa using hq));clear hq;iterate 3 refine vK ?_
      refine qKL ⟨ba,oa+k,none⟩ _ rfl (fun w1 H=>jab Tryz.underlying9 rfl (jaa Q2.o ((jah _).trans H))) ?_;refine vS ?_;iterate 3 refine vK ?_
      refine qKL ⟨ba,oa+i,none⟩ _ rfl (fun w1 H=>jab Tryz.underlying9 rfl (jaa Q3.o ((jah _).trans H))) ?_;refine vS ?_
      refine vK ?_
      cases E:(x.toList == t.toList)with
      | true =>
       have HN:Hid (x=t):=(jdL (by simpa using E));have hb:(!true)=false:=rfl;clear E;rw[hb]
       refine vK ?_
       refine qKE (fun w5 X=>?_);have K:=Hd (J.o.trans ((jah _).trans X));have a6:=Hd (show ∀ z∈L.take (k+1),shaB z=shaB t->z=t from fun z hz e=>by
        rw[bY,HX.o]at hz;rcases bT.1 hz with H | H
        ·exact HS.o z H e
        ·simp at H;subst H;exact HN.o)
       clear X Q1 Q2 Q3 J HS hb;go_wp2_with fail
       go_roundw
       case rel=>exact⟨k+1,by omega,by go_num,K.o,a6.o⟩
       case measure=>exact vJ
      | false =>
       have hb:(!false)=true:=rfl;have b8:=Hd (show ¬ InjL L from fun h=>by
        have:=h x (bI HX.o) t (bI HT.o) b7.o
        rw[this]at E;simp at E)
       clear E;rw[hb]
       refine vK ?_
       refine qKE (fun w5 X=>?_);have K:=Hd (J.o.trans ((jah _).trans X));clear X Q1 Q2 Q3 J HS hb;go_wp2_with fail
       go_ret
       exact⟨false,rfl,⟨fun e=>(by cases e),fun h=>absurd h b8.o⟩,a2.o.trans K.o⟩
    ·have b9:k=i:=vO
     subst b9;have c0:=Hd (HI.o.step HT.o HS.o);have c1:=Hd (a1.o.mono J.o);have c2:=Hd (show (L.take (k+1)).map shaB=(L.take k).map shaB++[sh] by rw[bY,HT.o,cB,a4.o];rfl);have c3:k+1<=maxLen:=by unfold maxLen;omega
     have c4:(k+1) * 16<=140737488355328:=vO
     clear HS HI J a1;go_wp2_with (at_builtin;refine jaK Tryz.sStrs (c1.o.mono ((ExtR wr).alloc _)) (.tmp 41) (.tmp 43) rfl rfl rfl (jaI (Blk.new wr _)) (news:=[.string sh]) (by intro u hu;simp at hu;rcases hu with rfl;rfl) rfl rfl c3 c4 ?_;intro v' w' r1 r2 r3)
     have a7:SRow w w' v' (k+1) ((L.take (k+1)).map shaB):=by unfold SRow;rw[c2.o,cB];exact r1
     obtain⟨c8,c9,rfl⟩:=a7.sl
     have c5:=Hd a7;clear r1 r2 r3 a7;go_wp2_with fail
     go_roundw
     case rel=>exact⟨k+1,by omega,by go_num,c5.o,c0.o⟩
     case measure=>exact vJ
  ·have c6:i=L.length:=vO
   have c7:=Hd (show InjL L by have:=HI.o;rwa [c6,cJ]at this);clear HI;go_wp2_with fail
   go_ret
   exact⟨true,rfl,⟨fun _=>c7.o,fun _=>rfl⟩,HR.o.ext⟩
end
