/- Lemmas; each is under no condition but those that it states. -/
import Derived.Test.YtcpnjmcipainpaaGreatDoorPr28
namespace Go.Proofs.YtcpnjmcipainpaaGreatDoor
set_option linter.unusedSimpArgs false
set_option linter.unusedVariables false
set_option maxRecDepth 100000
set_option maxHeartbeats 16000000
open Go Go.RowKit
def jcd(P:PA)(d:Chg):PA:=if d.gone then jbL P (ja5 d.key)else putP P (ja5 d.key) d.value
def jk0(q:List UInt8)(o:Option vB)(c:Chg):Option vB:=if q=(ja5 c.key).data.toList then c.o else o
theorem jrS{P:PA}(hP:P=.no\/CanP P){c:Chg}(hc:c.bad=false):(jcd P c=.no\/CanP (jcd P c))/\∀ q,getL (jcd P c) q=jk0 q (getL P q) c:=by
 have hv:=jch c.key;unfold jcd jk0 Chg.o;cases hg:c.gone with
 | true =>
  rw[if_pos rfl,if_pos rfl];rcases hP with rfl | hP
  ·refine⟨.inl rfl,fun q=>?_⟩
   show none=if q=_ then none else none
   split <;> rfl
  ·exact jmd P hP _ hv
 | false =>
  rw[if_neg ff,if_neg ff];have hu:c.value.size≠0:=by
   unfold Chg.bad at hc;rw[hg]at hc;simp only[Bool.false_and,Bool.or_false,Bool.not_false,Bool.true_and,Bool.or_eq_false_iff,Bool.not_eq_false']at hc;have h2:=hc.2;unfold jdc at h2
   have:=of_decide_eq_true h2;omega
  have hP':CanP P\/P=.no\/P=.nil:=by
   rcases hP with h | h
   ·exact .inr (.inl h)
   ·exact .inl h
  exact⟨.inr (jl7 P hP' _ _ hv hu),jmm P hP' _ _ hu⟩
theorem jqd:∀ (cs:List Chg) (P:PA),(P=.no\/CanP P)->cs.any Chg.bad=false->(cs.foldl jcd P=.no\/CanP (cs.foldl jcd P))/\∀ q,getL (cs.foldl jcd P) q=cs.foldl (jk0 q) (getL P q)
 | [],P,hP,_=>⟨hP,fun _=>rfl⟩
 | c :: cs,P,hP,hb=>by
  rw[List.any_cons,Bool.or_eq_false_iff]at hb
  obtain⟨h1,h2⟩:=jrS hP hb.1
  obtain⟨k1,k2⟩:=jqd cs _ h1 hb.2
  refine⟨k1,fun q=>?_⟩
  rw[List.foldl_cons,k2,h2,List.foldl_cons]
theorem jri{a b:vB}(h:ja5 a=ja5 b):a=b:=by rw[<-jgK a,h,jgK]
theorem joF(k:vB):jk0 (ja5 k).data.toList=jkZ k.data.toList:=by
 funext o c
 unfold jk0 jkZ Chg.o
 by_cases e:k.data.toList=c.key.data.toList
 ·rw[if_pos e,if_pos (by rw[jbt e])]
 ·rw[if_neg e,if_neg (fun h=>e (by rw[jri (jbt h)]))]
theorem jiU{q:List UInt8}(h:∀ k,q≠(ja5 k).data.toList)(o:Option vB):∀ cs:List Chg,cs.foldl (jk0 q) o=o
 | []=>rfl
 | c :: cs=>by
  have e:jk0 q o c=o:=by unfold jk0;rw[if_neg (h c.key)]
  rw[List.foldl_cons,e,jiU h o cs]
theorem jke(k:vB):∀ l:List Pair,valL l k=look l k.data.toList
 | []=>rfl
 | q :: r=>by
  rw[jbf];show (if q.1=k then some q.2 else valL r k)=_
  by_cases e:q.1=k
  ·rw[if_pos e,if_pos (by rw[<-e])]
  ·rw[if_neg e,if_neg (fun h=>e (jbt h.symm)),jke k r]
theorem jnC{l:List Pair}(h:jaA 12 l):jaY 13 l=.no\/CanP (jaY 13 l):=by
 by_cases h0:l.length=0
 ·exact .inl (jbN _ h0)
 ·exact .inr (jnB 12 l h (fun e=>h0 (by rw[e];rfl))).1
theorem jsV{l m:List Pair}(hl:jaG l=0)(hm:jaG m=0){cs:List Chg}(h:jkn l m cs):cs.foldl jcd (jaY 13 (jaO l))=jaY 13 (jaO m):=by
 have rl:=jbA (jaP hl);have rm:=jbA (jaP hm)
 obtain⟨h1,h2⟩:=jqd cs _ (jnC rl) h.fine
 refine jrf rm h1 fun p hp=>?_;rw[h2,jjU 12 _ rl p hp]
 by_cases hk:∃ k,p=ja5 k
 ·obtain⟨k,rfl⟩:=hk
  rw[joF,jkd,jkd,jke,jke];exact h.looks k.data.toList
 ·have hn:∀ k,p.data.toList≠(ja5 k).data.toList:=fun k e=>hk ⟨k,jbt e⟩
  have hv:∀ r:List Pair,valL (jaO r) p=none:=fun r=>jgf fun q hq e=>by
   obtain⟨x,_,rfl⟩:=List.mem_map.1 hq
   exact hk ⟨x.1,e.symm⟩
  rw[jiU hn,hv,hv]
def Dp:PA->Nat->Prop
 | .nil,_=>True
 | .no,_=>True
 | .leaf q _,n=>q.size<=n
 | .ext q m,n=>q.size<=n/\Dp m (n - q.size)
 | .br _ ks,n=>∀ i,(ks i).isNil=false->1<=n/\Dp (ks i) (n - 1)
theorem jb6:∀ (P:PA) (n m:Nat),Dp P n->n<=m->Dp P m
 | .nil,_,_,_,_=>trivial
 | .no,_,_,_,_=>trivial
 | .leaf q _,n,m,h,k=>Nat.le_trans (show q.size<=n from h) k
 | .ext q x,n,m,h,k=>⟨Nat.le_trans h.1 k,jb6 x _ _ h.2 vO⟩
 | .br _ ks,n,m,h,k=>fun i hi=>⟨Nat.le_trans (h i hi).1 k,jb6 (ks i) _ _ (h i hi).2 vO⟩
theorem jfA{a:vB}{P:PA}{n:Nat}(h:Dp P (n - a.size))(ha:a.size<=n):Dp (jb8 a P) n:=by
 unfold jb8
 by_cases h0:a.size=0
 ·rw[if_pos h0];exact jb6 P _ _ h vO
 rw[if_neg h0];cases P with
 | nil=>trivial
 | no=>trivial
 | leaf q v =>
  have h:q.size<=n - a.size:=h;show (a++q).size<=n;rw[jcU];omega
 | ext q m =>
  have h1:=h.1
  refine⟨by rw[jcU];omega,?_⟩
  rw[jcU];exact jb6 m _ _ h.2 vO
 | br v ks=>exact⟨ha,h⟩
theorem jhC{v:vB}{ks:Nat->PA}{n:Nat}(h:Dp (.br v ks) n){i:Nat}{P:PA}(h1:1<=n)(hP:Dp P (n - 1))(u:vB):Dp (.br u (setK ks i P)) n:=by
 intro j hj
 by_cases e:j=i
 ·rw[e,jcb];exact⟨h1,hP⟩
 ·rw[jey _ _ e]at hj ⊢;exact h j hj
theorem jhA{v:vB}{ks:Nat->PA}{n:Nat}(h:Dp (.br v ks) n){p:vB}(hp:p.size<=n)(u:vB):Dp (addK (.br v ks) p u) n:=by
 rw[jcH]
 by_cases h0:p.size=0
 ·rw[if_pos h0];exact h
 ·rw[if_neg h0]
  refine jhC h vO ?_ v;show (jbm p).size<=n - 1;unfold jbm;rw[jaR];omega
theorem jg7(v:vB)(n:Nat):Dp (.br v fun _=>.nil) n:=fun i hi=>by cases hi
theorem jeN(a b:vB):jak a b<=a.size/\jak a b<=b.size:=by
 have:=jbb a.data.toList b.data.toList
 unfold jak;rw[<-jaC, <-jaC];exact this.2
theorem jm7:∀ (P:PA) (n:Nat) (p u:vB),Dp P n->p.size<=n->Dp (putP P p u) n
 | .nil,_,p,u,_,hp=>hp
 | .no,_,p,u,_,hp=>hp
 | .leaf q v,n,p,u,h,hp=>by
  have h:q.size<=n:=h
  obtain⟨c1,c2⟩:=jeN q p
  unfold putP
  by_cases e:p=q
  ·rw[if_pos e];exact hp
  rw[if_neg e];have hz:(p.extract 0 (jak q p)).size=jak q p:=by rw[ByteArray.size_extract];omega
  refine jfA ?_ vO;rw[hz];have h9:=jhA (jg7 ⟨#[]⟩ (n - jak q p)) (p:=q.extract (jak q p) q.size) (by rw[jaR];omega) v;rw[jcH]at h9 ⊢
  by_cases h0:(q.extract (jak q p) q.size).size=0
  ·rw[if_pos h0]at h9 ⊢
   exact jhA h9 (by rw[jaR];omega) u
  ·rw[if_neg h0]at h9 ⊢
   exact jhA h9 (by rw[jaR];omega) u
 | .ext q x,n,p,u,h,hp=>by
  obtain⟨c1,c2⟩:=jeN q p
  unfold putP
  by_cases e:jak q p=q.size
  ·rw[if_pos e]
   refine jfA (jm7 x _ _ u h.2 ?_) h.1;rw[jaR];omega
  ·rw[if_neg e]
   have hz:(p.extract 0 (jak q p)).size=jak q p:=by rw[ByteArray.size_extract];omega
   refine jfA ?_ vO;rw[hz];have hq:=h.1;refine jhA (jhC (jg7 ⟨#[]⟩ _) vO (jfA ?_ ?_) _) (by rw[jaR];omega) u
   ·rw[jaR]
    exact jb6 x _ _ h.2 vO
   ·rw[jaR];omega
 | .br v ks,n,p,u,h,hp=>by
  unfold putP
  by_cases h0:p.size=0
  ·rw[if_pos h0];exact h
  ·rw[if_neg h0]
   refine jhC h vO (jm7 (ks (jaq p)) (n - 1) _ u ?_ ?_) v
   ·cases hn:(ks (jaq p)).isNil with
    | true=>rw[jbo hn];trivial
    | false=>exact (h _ hn).2
   ·unfold jbm;rw[jaR];omega
theorem jm6{v:vB}{ks:Nat->PA}{n:Nat}(h:Dp (.br v ks) n):Dp (jdd v ks) n:=by
 have hm:∀ i∈idxK ks,(ks i).isNil=false:=fun i hi=>by
  have:=(List.mem_filter.1 hi).2
  simpa using this
 unfold jdd;cases e:idxK ks with
 | nil =>
  show Dp (if v.size=0 then PA.no else .leaf ⟨#[]⟩ v) n
  by_cases h0:v.size=0
  ·rw[if_pos h0];trivial
  ·rw[if_neg h0];exact Nat.zero_le n
 | cons i r =>
  cases r with
  | nil =>
   show Dp (if v.size=0 then jb8 ⟨#[UInt8.ofNat i]⟩ (ks i)else .br v ks) n
   by_cases h0:v.size=0
   ·rw[if_pos h0]
    obtain⟨h1,h2⟩:=h i (hm i (by rw[e];exact List.mem_cons_self))
    exact jfA h2 h1
   ·rw[if_neg h0];exact h
  | cons j r=>exact h
theorem jhB:∀ (P:PA) (n:Nat) (p:vB),Dp P n->Dp (jbL P p) n
 | .nil,_,_,_=>trivial
 | .no,_,_,_=>trivial
 | .leaf q v,n,p,h=>by
  unfold jbL
  by_cases e:p=q
  ·rw[if_pos e];trivial
  ·rw[if_neg e];exact h
 | .ext q x,n,p,h=>by
  unfold jbL;cases preB q p with
  | false=>rw[if_neg ff];exact h
  | true=>rw[if_pos rfl];exact jfA (jhB x _ _ h.2) h.1
 | .br v ks,n,p,h=>by
  unfold jbL
  by_cases h0:p.size=0
  ·rw[if_pos h0];exact jm6 h
  ·rw[if_neg h0]
   cases hn:(ks (jaq p)).isNil with
   | true=>rw[if_pos rfl];exact h
   | false =>
    rw[if_neg ff]
    obtain⟨h1,h2⟩:=h _ hn
    refine jm6 (jhC h h1 ?_ v)
    have:=jhB (ks (jaq p)) (n - 1) (jbm p) h2
    unfold unNo;cases (jbL (ks (jaq p)) (jbm p)).isNo with
    | true=>rw[if_pos rfl];trivial
    | false=>rw[if_neg ff];exact this
theorem jrc:∀ (f:Nat) (l:List Pair) (k:Nat),jaA f l->jaA k l->Dp (jaY (f+1) l) k:=by
 intro f;have leaf:∀ (f:Nat) (l:List Pair) (k:Nat),jaA k l->l.length=1->Dp (jaY (f+1) l) k:=by
  intro f l k h h1;rw[jbT _ h1];exact (h.size _ (jdH (l:=l) vO)).1
 induction f with
 | zero =>
  intro l k h hk;have hl:=jb1 h
  by_cases h0:l.length=0
  ·rw[jbN _ h0];trivial
  ·exact leaf 0 l k hk vO
 | succ f ih =>
  intro l k h hkk
  by_cases h0:l.length=0
  ·rw[jbN _ h0];trivial
  by_cases h1:l.length=1
  ·exact leaf _ l k hkk h1
  have h2:2<=l.length:=by omega
  by_cases hk:0 < comK l
  ·have hm:=jdH (l:=l) vO
   have hh:=jc5 h h2;have hcom:=jbu h h2;have hle:=(hcom _ hm).2;have hsz:=(hkk.size _ hm).1;rw[jdi _ h2 hk]
   refine⟨by rw[hh];omega,?_⟩
   rw[hh];exact ih _ _ (jfE h h2 hk).1 (jcv (comK l) hkk (fun p hp q hq=>(hcom p hp).1.trans (hcom q hq).1.symm) (fun p hp=>(hcom p hp).2))
  ·rw[jev _ h2 hk]
   intro i hi;have hi:(if (cutL i l).length=0 then PA.nil else jaY (f+1) (jal 1 (cutL i l))).isNil=false:=hi;show 1<=k/\Dp (if (cutL i l).length=0 then PA.nil else jaY (f+1) (jal 1 (cutL i l))) (k - 1)
   by_cases hc:(cutL i l).length=0
   ·rw[if_pos hc]at hi;cases hi
   ·rw[if_neg hc]
    refine⟨?_,ih _ _ (jf2 h hc).1 (jeb i hkk)⟩
    cases e:cutL i l with
    | nil=>rw[e]at hc;exact (hc rfl).elim
    | cons p r =>
     obtain⟨hp,a,t,h1,h2⟩:=jbR (show p∈cutL i l by rw[e];exact List.mem_cons_self)
     have:=(hkk.size p hp).1
     have h3:p.1.size=(a :: t).length:=by rw[<-jaC];exact congrArg List.length h1
     rw[List.length_cons]at h3;omega
section
attribute [local go_sem] Oper.semAt_some
def noV:Value:=.iface 292 (.agg #[])
def jiw(b:Nat):Value:=.iface 281 (.pointer (some ⟨b,0,none⟩))
def extV(b:Nat):Value:=.iface 284 (.pointer (some ⟨b,0,none⟩))
def brV(b:Nat):Value:=.iface 287 (.pointer (some ⟨b,0,none⟩))
def brC(u:vB)(vk:Nat->Value):List Value:=.string u ::(List.range 16).map vk
def PaAt:PA->Value->(Nat->Prop)->World->Prop
 | .nil,v,_,_=>v=.nilIface
 | .no,v,_,_=>v=noV
 | .leaf q u,v,D,W=>∃ b,v=jiw b/\D b/\Blk W b (.cells #[.string q,.string u] 283)
 | .ext q n,v,D,W=>∃ b T x Dn,v=extV b/\D b/\Blk W b (.cells #[.string q,.iface T x] 286)/\PaAt n (.iface T x) Dn W/\¬ Dn b/\∀ x,Dn x->D x
 | .br u ks,v,D,W=>∃ (b:Nat) (vk:Nat->Value) (Dk:Nat->Nat->Prop),v=brV b/\D b/\Blk W b (.cells (brC u vk).toArray 290) /\
   (∀ i,i < 16->PaAt (ks i) (vk i) (Dk i) W/\¬ Dk i b/\∀ x,Dk i x->D x)/\∀ i j,i < 16->j < 16->i≠j->∀ x,Dk i x->¬ Dk j x
theorem PaAt.keeps{F:BSet}{W W':World}(k:jae F W W'):∀ (P:PA) (v:Value) (D:Nat->Prop),PaAt P v D W->(∀ x,D x->¬ F x)->PaAt P v D W'
 | .nil,_,_,h,_=>h
 | .no,_,_,h,_=>h
 | .leaf _ _,_,_,⟨b,h1,h2,h3⟩,hF=>⟨b,h1,h2,h3.keeps k (hF b h2)⟩
 | .ext _ n,_,_,⟨b,T,x,Dn,h1,h2,h3,h4,h5,h6⟩,hF=>⟨b,T,x,Dn,h1,h2,h3.keeps k (hF b h2),PaAt.keeps k n (.iface T x) Dn h4 (fun x hx=>hF x (h6 x hx)),h5,h6⟩
 | .br _ ks,_,_,⟨b,vk,Dk,h1,h2,h3,h4,h5⟩,hF=>⟨b,vk,Dk,h1,h2,h3.keeps k (hF b h2),fun i hi=>⟨PaAt.keeps k (ks i) (vk i) (Dk i) (h4 i hi).1 (fun x hx=>hF x ((h4 i hi).2.2 x hx)),(h4 i hi).2⟩,h5⟩
theorem PaAt.mono{D D':Nat->Prop}{W:World}(hD:∀ x,D x->D' x):∀ {P:PA} {v:Value},PaAt P v D W->PaAt P v D' W
 | .nil,_,h=>h
 | .no,_,h=>h
 | .leaf _ _,_,⟨b,h1,h2,h3⟩=>⟨b,h1,hD b h2,h3⟩
 | .ext _ n,_,⟨b,T,x,Dn,h1,h2,h3,h4,h5,h6⟩=>⟨b,T,x,Dn,h1,hD b h2,h3,h4,h5,fun x hx=>hD x (h6 x hx)⟩
 | .br _ ks,_,⟨b,vk,Dk,h1,h2,h3,h4,h5⟩=>⟨b,vk,Dk,h1,hD b h2,h3,fun i hi=>⟨(h4 i hi).1,(h4 i hi).2.1,fun x hx=>hD x ((h4 i hi).2.2 x hx)⟩,h5⟩
theorem PaAt.form{P:PA}{v:Value}{D:Nat->Prop}{W:World}(h:PaAt P v D W)(hn:P.isNil=false):∃ T x,v=.iface T x:=by
 cases P with
 | nil=>cases hn
 | no=>exact⟨_,_,h⟩
 | leaf q u=>obtain⟨b,h,_⟩:=h;exact⟨_,_,h⟩
 | ext q n=>obtain⟨b,T,x,Dn,h,_⟩:=h;exact⟨_,_,h⟩
 | br u ks=>obtain⟨b,vk,Dk,h,_⟩:=h;exact⟨_,_,h⟩
structure PaO(P:PA)(v:Value)(D:Nat->Prop)(W:World):Prop where
 at':PaAt P v D W
 lt:∀ x,D x->x < W.heap.size
theorem PaO.keeps{F:BSet}{W W':World}{P:PA}{v:Value}{D:Nat->Prop}(h:PaO P v D W)(k:jae F W W')(hF:∀ x,D x->¬ F x):PaO P v D W':=
 ⟨h.at'.keeps k P v D hF,fun x hx=>Nat.lt_of_lt_of_le (h.lt x hx) k.size⟩
theorem PaO.ext{W W':World}{P:PA}{v:Value}{D:Nat->Prop}(h:PaO P v D W)(k:Ext W W'):PaO P v D W':=h.keeps k fun _ _ e=>e
def Grow(D:Nat->Prop)(W W':World):Nat->Prop:=fun x=>D x\/(W.heap.size<=x/\x < W'.heap.size)
theorem jer{D:Nat->Prop}{W W':World}{F:BSet}(h:∀ x,D x->x < W.heap.size)(k:jae F W W'):∀ x,Grow D W W' x->x < W'.heap.size
 | x,.inl hx=>Nat.lt_of_lt_of_le (h x hx) k.size
 | x,.inr hx=>hx.2
def PaTo(D:Nat->Prop)(W:World)(P:PA)(e:Ending)(w':World):Prop:=∃ v,e=.returned v/\PaAt P v (Grow D W w') w'/\jae D W w'
theorem PaTo.own{D:Nat->Prop}{W:World}{P:PA}{v:Value}{w':World}(h:PaAt P v (Grow D W w') w')(k:jae D W w')(hl:∀ x,D x->x < W.heap.size):PaO P v (Grow D W w') w':=⟨h,jer hl k⟩
def PaEx(D:Nat->Prop)(W:World)(P:PA)(e:Ending)(w':World):Prop:=∃ v,e=.returned v/\PaAt P v (Grow D W w') w'/\Ext W w'
theorem jvw(b:Nat)(w:World):(Instr.typeAssert (jiw b) 100 281 true).run Tryz.prog w=.ok (.tuple #[.pointer (some ⟨b,0,none⟩),.bool true]) w:=by kernel_rfl
theorem jmq(v:Value)(h:(∃ b,v=extV b)\/(∃ b,v=brV b)\/v=noV)(w:World):(Instr.typeAssert v 100 281 true).run Tryz.prog w=.ok (.tuple #[.pointer none,.bool false]) w:=by
 rcases h with⟨b,rfl⟩ |⟨b,rfl⟩ | rfl <;> kernel_rfl
theorem jxi(b:Nat)(w:World):(Instr.typeAssert (extV b) 100 284 true).run Tryz.prog w=.ok (.tuple #[.pointer (some ⟨b,0,none⟩),.bool true]) w:=by kernel_rfl
theorem jum(v:Value)(h:(∃ b,v=brV b)\/v=noV)(w:World):(Instr.typeAssert v 100 284 true).run Tryz.prog w=.ok (.tuple #[.pointer none,.bool false]) w:=by
 rcases h with⟨b,rfl⟩ | rfl <;> kernel_rfl
theorem jyE(b:Nat)(w:World):(Instr.typeAssert (brV b) 100 287 true).run Tryz.prog w=.ok (.tuple #[.pointer (some ⟨b,0,none⟩),.bool true]) w:=by kernel_rfl
theorem jyF(w:World):(Instr.typeAssert noV 100 287 true).run Tryz.prog w=.ok (.tuple #[.pointer none,.bool false]) w:=by kernel_rfl
end
section
section mixz
variable {P:Program} {l:List Oper} {E D:World->World->Prop}
def anyZ(P:Program)(ops:Array Oper)(z:Nat)(hd:List Nat)(E D:World->World->Prop)(Q:Act->World->Prop):Nat->Array Bool->Act->World->Prop
 | 0,listed,a,w=>listed.getD z true=true/\Region.ready .any ops listed=[]/\Q a w
 | fuel+1,listed,a,w=>∀ w1,(listed.getD z true=false->E w w1)->(listed.getD z true=true->w1=w) ->
  (Region.ready .any ops listed=[]->Q a w1) /\
  ∀ i∈Region.ready .any ops listed,wpOp P ops NoQ i (fun a' w'=>(listed.getD z true=false->i≠z->D w1 w'/\(i ∉ hd->E w1 w'))/\(listed.getD z true=true->w'=w1)/\anyZ P ops z hd E D Q fuel (listed.setIfInBounds i true) a' w') a w1
theorem jpt(hT:∀ x y z,E x y->E y z->E x z){ops:Array Oper}{z:Nat}{hd:List Nat}{Q:Act->World->Prop}:∀ (fuel:Nat) (listed:Array Bool) (a:Act) (w w1:World),listed.getD z true=false->anyZ P ops z hd E D Q fuel listed a w->E w w1->anyZ P ops z hd E D Q fuel listed a w1
 | 0,_,_,_,_,hz,h,_=>by have:=h.1;rw[hz]at this;cases this
 | _+1,_,_,_,_,hz,h,he=>fun w2 h2 h3=>h w2 (fun e=>hT _ _ _ he (h2 e)) (fun e=>absurd e (by rw[hz];decide))
theorem jiD(hE:∀ w,E w w){ops:Array Oper}{z:Nat}{hd:List Nat}{Q:Act->World->Prop}{Q':Exit->Act->World->Prop}(hQ:∀ a w,Q a w->Q' .normal a w) :
  ∀ (fuel:Nat) (listed:Array Bool) (a:Act) (w:World),anyZ P ops z hd E D Q fuel listed a w->wpAny P .any ops Q' fuel listed a w
 | 0,_,_,w,h=>⟨h.2.1,hQ _ _ h.2.2⟩
 | fuel+1,_,_,w,h=>let ⟨h1,h2⟩:=h w (fun _=>hE w) (fun _=>rfl)
  ⟨fun h0=>hQ _ _ (h1 h0),fun i hi=>jhn (fun a' w' ⟨_,_,h'⟩=>jiD hE hQ fuel _ a' w' h') (h2 i hi)⟩
def jor(ops:Array Oper)(z i:Nat):Bool:=match ops[z]? with | some o=>o.after.toList.any fun e=>Region.binds .any e && e.on == i | none=>false
theorem jsM{ops:Array Oper}{z i:Nat}{listed:Array Bool}(he:jor ops z i=true)(hi:i∈Region.ready .any ops listed):z ∉ Region.ready .any ops listed:=by
 intro hz;unfold jor at he
 obtain⟨hzu,oz,hoz,hall⟩:=mem_ready.1 hz
 rw[hoz]at he
 obtain⟨e,hem,h2⟩:=List.any_eq_true.1 he
 rw[Bool.and_eq_true,beq_iff_eq]at h2;have h1:=hall e (by simpa using hem) h2.1;have h0:=(mem_ready.1 hi).1;rw[h2.2]at h1;rcases Nat.lt_or_ge i listed.size with h' | h'
 ·simp[h']at h0 h1;rw[h0]at h1;cases h1
 ·simp[Array.getElem?_eq_none h']at h1
theorem joc(hE:∀ w,E w w)(hT:∀ x y z,E x y->E y z->E x z)(hD:∀ x y z,D x y->D y z->D x z)(hED:∀ x y,E x y->D x y){ops:Array Oper}{z:Nat}{hd:List Nat}{Q:Act->World->Prop}{i:Nat}{oi:Oper}{v:Value}(hiz:i≠z)(he0:jor ops z i=true)(hi:ops[i]?=some oi)(hsel:∀ (j:Nat) (o:Oper) cs b,ops[j]?=some o->o.op≠.select cs b) :
  ∀ (fuel:Nat) (listed:Array Bool) (a:Act) (w:World),listed.getD z true=false ->
   (∀ j oj,ops[j]?=some oj->j≠i->listed.getD j true=false->(∀ e∈oj.after,Region.binds .any e=true->e.on≠i)->oi.apart ops oj=true) ->
   i∈Region.ready .any ops listed->jcl P ops E D w oi v a ->
   anyZ P ops z hd E D Q fuel (listed.setIfInBounds i true) (a.put oi.dst v) w->anyZ P ops z hd E D Q (fuel+1) listed a w:=by
 intro fuel;induction fuel with
 | zero =>
  intro listed a w hz _ hr hy H
  have:=H.1
  rw[getD_set_ne true hiz,hz]at this;cases this
 | succ fuel ih =>
  intro listed a w hz hfree hr hy H w1 he1 _;have he:=he1 hz;have hz':(listed.setIfInBounds i true).getD z true=false:=by rw[getD_set_ne true hiz,hz]
  refine⟨fun h=>(by rw[h]at hr;cases hr),fun j hj=>?_⟩
  by_cases hji:j=i
  ·subst hji
   exact hy.wpOp hi (hED _ _ he) hE (fun w' h1=>⟨fun _ _=>⟨hED _ _ h1,fun _=>h1⟩,fun e=>absurd e (by rw[hz];decide),jpt hT _ _ _ _ _ hz' H (hT _ _ _ he h1)⟩)
  ·have hjz:j≠z:=fun e=>jsM he0 hr (e ▸ hj)
   have h1:=(H w1 (fun _=>he) (fun e=>by rw[hz']at e;cases e)).2 j (ready_mono hj hji)
   obtain⟨hjun,oj,hoj,hall⟩:=mem_ready.1 hj
   have hnot:∀ e∈oj.after,Region.binds .any e=true->e.on≠i:=fun e he hb heq=>by
    have h1:=hall e he hb;have h0:=(mem_ready.1 hr).1;rw[heq]at h1;rcases Nat.lt_or_ge i listed.size with h' | h'
    ·simp[h']at h0 h1;rw[h0]at h1;cases h1
    ·simp[Array.getElem?_eq_none h']at h1
   have h2:=je6 (v:=v) (Y:=fun a'=>execOp a'.eval oi=execOp a.eval oi/\Region.wanted oi (yielded ops a'.tmps)=Region.wanted oi (yielded ops a.tmps)) hoj (hfree j oj hoj hji hjun hnot) (fun cs b=>hsel i oi cs b hi) (fun cs b=>hsel j oj cs b hoj)
    (fun a1 a2 h e1 e2=>⟨e1.trans h.1,e2.trans h.2⟩) ⟨rfl,rfl⟩ h1
   have hfree':∀ k ok,ops[k]?=some ok->k≠i->(listed.setIfInBounds j true).getD k true=false ->
     (∀ e∈ok.after,Region.binds .any e=true->e.on≠i)->oi.apart ops ok=true:=fun k ok hk hki hun hno=>by
    refine hfree k ok hk hki ?_ hno
    by_cases hjk:j=k
    ·subst hjk;exact hjun
    ·rw[getD_set_ne true hjk]at hun;exact hun
   refine wpOp_mono (fun a' w' h3=>?_) h2
   obtain⟨⟨e1,e2⟩,h4,_,h5⟩:=h3
   have h4:=h4 hz' hjz
   refine⟨fun _ _=>h4,fun e=>absurd e (by rw[hz];decide),?_⟩
   have hyn:jcl P ops E D w' oi v a':=(hy.of_same e1 e2).st hD (hD _ _ _ (hED _ _ he) h4.1);refine ih (listed.setIfInBounds j true) a' w' (by rw[getD_set_ne true hjz,hz]) hfree' (ready_mono hr (Ne.symm hji)) hyn ?_;rw[Array.setIfInBounds_comm _ _ hji];exact h5
def jgl(P:Program)(ops:Array Oper)(o:Oper)(v:Value)(a:Act):Prop:=
 (Region.wanted o (yielded ops a.tmps)=true/\∀ w1,jmA P (fun x y=>y=x) w1 v ((execOp a.eval o).run P w1))\/(Region.wanted o (yielded ops a.tmps)=false/\v=undef)
theorem jgl.wpOp{ops:Array Oper}{i:Nat}{o:Oper}{v:Value}{a:Act}(hi:ops[i]?=some o)(hy:jgl P ops o v a){K:Act->World->Prop}{w1:World}
  (h:K (a.put o.dst v) w1):wpOp P ops NoQ i K a w1:=by
 have hy':jbG P ops (fun x y=>y=x) w1 o v a:=by
  rcases hy with⟨h1,h2⟩ | h1
  ·exact .inl ⟨h1,fun w1 _=>h2 w1⟩
  ·exact .inr h1
 exact hy'.wpOp hi (Eq.refl w1) (fun _=>rfl) (fun w' e=>by have e:w'=w1:=e;rw[e];exact h)
theorem jsh(hE:∀ w,E w w)(hT:∀ x y z,E x y->E y z->E x z)(hED:∀ x y,E x y->D x y){ops:Array Oper}{z:Nat}{hd:List Nat}{Q:Act->World->Prop}{i:Nat}{oi:Oper}{v:Value}(hiz:i≠z)(hi:ops[i]?=some oi)(hsel:∀ (j:Nat) (o:Oper) cs b,ops[j]?=some o->o.op≠.select cs b) :
  ∀ (fuel:Nat) (listed:Array Bool) (a:Act) (w:World),
   (∀ j oj,ops[j]?=some oj->j≠i->listed.getD j true=false->(∀ e∈oj.after,Region.binds .any e=true->e.on≠i)->oi.apart ops oj=true) ->
   i∈Region.ready .any ops listed->jgl P ops oi v a ->
   anyZ P ops z hd E D Q fuel (listed.setIfInBounds i true) (a.put oi.dst v) w->anyZ P ops z hd E D Q (fuel+1) listed a w:=by
 intro fuel;have same:∀ (fuel:Nat) (listed:Array Bool) (a:Act) (w w1:World),(listed.getD z true=false->E w w1)->(listed.getD z true=true->w1=w) ->
   anyZ P ops z hd E D Q fuel (listed.setIfInBounds i true) (a.put oi.dst v) w->anyZ P ops z hd E D Q fuel (listed.setIfInBounds i true) (a.put oi.dst v) w1:=by
  intro fuel listed a w w1 h1 h2 H;cases hz:listed.getD z true with
  | true=>rw[h2 hz];exact H
  | false=>exact jpt hT _ _ _ _ _ (by rw[getD_set_ne true hiz,hz]) H (h1 hz)
 induction fuel with
 | zero =>
  intro listed a w hfree hr hy H w1 he1 he2;have hz:listed.getD z true=true:=by have:=H.1;rwa [getD_set_ne true hiz]at this
  refine⟨fun h=>(by rw[h]at hr;cases hr),fun j hj=>?_⟩
  by_cases hji:j=i
  ·subst hji
   exact hy.wpOp hi ⟨fun _ _=>⟨hED _ _ (hE w1),fun _=>hE w1⟩,fun _=>rfl,same 0 listed a w w1 he1 he2 H⟩
  ·have:=ready_mono hj hji
   rw[H.2.1]at this;cases this
 | succ fuel ih =>
  intro listed a w hfree hr hy H w1 he1 he2
  refine⟨fun h=>(by rw[h]at hr;cases hr),fun j hj=>?_⟩
  by_cases hji:j=i
  ·subst hji
   exact hy.wpOp hi ⟨fun _ _=>⟨hED _ _ (hE w1),fun _=>hE w1⟩,fun _=>rfl,same _ listed a w w1 he1 he2 H⟩
  ·have hzz:(listed.setIfInBounds i true).getD z true=listed.getD z true:=getD_set_ne true hiz
   have h1:=(H w1 (fun e=>he1 (hzz ▸ e)) (fun e=>he2 (hzz ▸ e))).2 j (ready_mono hj hji)
   obtain⟨hjun,oj,hoj,hall⟩:=mem_ready.1 hj
   have hnot:∀ e∈oj.after,Region.binds .any e=true->e.on≠i:=fun e he hb heq=>by
    have h1:=hall e he hb;have h0:=(mem_ready.1 hr).1;rw[heq]at h1;rcases Nat.lt_or_ge i listed.size with h' | h'
    ·simp[h']at h0 h1;rw[h0]at h1;cases h1
    ·simp[Array.getElem?_eq_none h']at h1
   have h2:=je6 (v:=v) (Y:=fun a'=>execOp a'.eval oi=execOp a.eval oi/\Region.wanted oi (yielded ops a'.tmps)=Region.wanted oi (yielded ops a.tmps)) hoj (hfree j oj hoj hji hjun hnot) (fun cs b=>hsel i oi cs b hi) (fun cs b=>hsel j oj cs b hoj)
    (fun a1 a2 h e1 e2=>⟨e1.trans h.1,e2.trans h.2⟩) ⟨rfl,rfl⟩ h1
   have hfree':∀ k ok,ops[k]?=some ok->k≠i->(listed.setIfInBounds j true).getD k true=false ->
     (∀ e∈ok.after,Region.binds .any e=true->e.on≠i)->oi.apart ops ok=true:=fun k ok hk hki hun hno=>by
    refine hfree k ok hk hki ?_ hno
    by_cases hjk:j=k
    ·subst hjk;exact hjun
    ·rw[getD_set_ne true hjk]at hun;exact hun
   refine wpOp_mono (fun a' w' h3=>?_) h2
   obtain⟨⟨e1,e2⟩,h4,h4',h5⟩:=h3
   rw[hzz]at h4 h4'
   refine⟨h4,h4',?_⟩
   have hyn:jgl P ops oi v a':=by unfold jgl at *;rw[e1,e2];exact hy
   refine ih (listed.setIfInBounds j true) a' w' hfree' (ready_mono hr (Ne.symm hji)) hyn ?_;rw[Array.setIfInBounds_comm _ _ hji];exact h5
def MixZ(P:Program)(l:List Oper)(z:Nat)(hd:List Nat)(E D:World->World->Prop)(Q:Act->World->Prop):List Nat->List Nat->Act->World->Prop
 | [],done,a,w=>Region.ready .any l.toArray (jbd l done)=[z]/\(jbd l done).getD z true=false/\(jbd l (z :: done)).getD z true=true/\Region.ready .any l.toArray (jbd l (z :: done))=[]/\∀ w1,E w w1->wpOp P l.toArray NoQ z Q a w1
 | k :: ord,done,a,w=>(jbd l done).getD z true=false/\k≠z /\
  ((k∈Region.ready .any l.toArray (jbd l done)/\Region.free .any l.toArray (jbd l done) k=true/\∃ o v,l[k]?=some o/\((jor l.toArray z k=true/\jcl P l.toArray E D w o v a)\/jgl P l.toArray o v a)/\MixZ P l z hd E D Q ord (k :: done) (a.put o.dst v) w) \/
  (Region.ready .any l.toArray (jbd l done)=[k]/\k∈hd/\∀ w1,E w w1->wpOp P l.toArray NoQ k (fun a' w'=>D w1 w'/\MixZ P l z hd E D Q ord (k :: done) a' w') a w1))
theorem jel(hE:∀ w,E w w)(hT:∀ x y z,E x y->E y z->E x z)(hD:∀ x y z,D x y->D y z->D x z)(hED:∀ x y,E x y->D x y)(hs:Region.noSelect l.toArray=true){z:Nat}{hd:List Nat}{Q:Act->World->Prop}:∀ (ord:List Nat) (done:List Nat) (a:Act) (w:World),
  MixZ P l z hd E D Q ord done a w->anyZ P l.toArray z hd E D Q (ord.length+1) (jbd l done) a w
 | [],done,a,w,⟨h1,hz,hz2,h2,h3⟩=>fun w1 he _=>by
  refine⟨fun h0=>(by rw[h1]at h0;cases h0),fun i hi=>?_⟩
  rw[h1]at hi;obtain rfl:i=z:=by simpa using hi
  exact wpOp_mono (fun a' w' h=>⟨fun _ e=>absurd rfl e,fun e=>absurd e (by rw[hz];decide),hz2,h2,h⟩) (h3 w1 (he hz))
 | k :: ord,done,a,w,⟨hz,hkz,h⟩=>by
  rcases h with⟨hr,hf,o,v,ho,hy,h⟩ |⟨hr,hkd,h⟩
  ·have ho':l.toArray[k]?=some o:=by simpa using ho
   rcases hy with⟨he,hy⟩ | hy
   ·exact joc hE hT hD hED hkz he ho' (Region.noSelect_spec hs) (ord.length+1) (jbd l done) a w hz (Region.free_spec ho' hf) hr hy (jel hE hT hD hED hs ord _ _ _ h)
   ·exact jsh hE hT hED hkz ho' (Region.noSelect_spec hs) (ord.length+1) (jbd l done) a w (Region.free_spec ho' hf) hr hy (jel hE hT hD hED hs ord _ _ _ h)
  ·intro w1 he _
   refine⟨fun h0=>(by rw[hr]at h0;cases h0),fun i hi=>?_⟩
   rw[hr]at hi;obtain rfl:i=k:=by simpa using hi
   exact wpOp_mono (fun a' w' h2=>⟨fun _ _=>⟨h2.1,fun hn=>absurd hkd hn⟩,fun e=>absurd e (by rw[hz];decide),jel hE hT hD hED hs ord _ _ _ h2.2⟩) (h w1 (he hz))
theorem jc2(ord:List Nat)(z:Nat)(hd:List Nat)(E D:World->World->Prop)(hE:∀ w,E w w)(hT:∀ x y z,E x y->E y z->E x z)(hD:∀ x y z,D x y->D y z->D x z)(hED:∀ x y,E x y->D x y){id:Nat}{Q:Exit->Act->World->Prop}{a:Act}{w:World}
  (hm:P.follows .mixedOrders=true) (hs:Region.noSelect l.toArray=true) (hl:ord.length+1=l.toArray.size)
  (h:MixZ P l z hd E D (fun a w=>Q .normal a w) ord [] a w.drew):(Code.region id l.toArray true).wp P Q a w:=by
 refine wp_region_any hm ?_;rw[<-hl]
 have:=jel hE hT hD hED hs ord _ _ _ h
 unfold jbd at this;rw[hl]at this ⊢;exact jiD hE (fun _ _ h=>h) _ _ _ _ this
variable {Q:Act->World->Prop} {ord done hd:List Nat} {a:Act} {w:World} {k z:Nat} {o:Oper}
def joB(l:List Oper)(z:Nat)(done:List Nat)(k:Nat):Bool:=(Region.ready .any l.toArray (jbd l done)).contains k && Region.free .any l.toArray (jbd l done) k && (jbd l done).getD z true == false && k != z
theorem jgE(h:joB l z done k=true):(k∈Region.ready .any l.toArray (jbd l done)/\Region.free .any l.toArray (jbd l done) k=true)/\(jbd l done).getD z true=false/\k≠z:=by
 simp only[joB,Bool.and_eq_true,List.contains_iff_mem,beq_iff_eq,bne_iff_ne]at h
 exact⟨h.1.1,h.1.2,h.2⟩
theorem jqR(o:Oper)(ho:l[k]?=some o)(hk:joB l z done k=true)(hw:Region.wanted o (yielded l.toArray a.tmps)=true)(hq:jiT o.op=true)
  (h:∀ K:Act->Prop,(∀ a',MixZ P l z hd E D Q ord (k :: done) a' w->K a')->o.quiet P a (fun _=>True) K):MixZ P l z hd E D Q (k :: ord) done a w:=by
 obtain⟨⟨k1,k2⟩,k3,k4⟩:=jgE hk
 obtain⟨v,h1,h2⟩:=h _ (fun _ h=>h)
 refine⟨k3,k4,.inl ⟨k1,k2,o,v,ho,.inr (.inl ⟨hw,fun w1=>?_⟩),h2⟩⟩
 have h3:=h1 w1 trivial;unfold Oper.quietAt at h3;have h4:=fun f args w'=>jjW (ρ:=a.eval) hq P w1 w' f args;generalize (execOp a.eval o).run P w1=r at *;cases r with
 | ok n w'=>cases n <;> simp only[Oper.quietUpon]at h3 <;> first | exact h3 | exact absurd rfl (h4 _ _ _)
 | halt x w'=>simp only[Oper.quietUpon]at h3
theorem jcx(o:Oper)(v:Value)(ho:l[k]?=some o)(hk:joB l z done k=true)(hw:Region.wanted o (yielded l.toArray a.tmps)=true)
  (hv:∀ w1,(execOp a.eval o).run P w1=.ok (.value v) w1) (h:MixZ P l z hd E D Q ord (k :: done) (a.put o.dst v) w):MixZ P l z hd E D Q (k :: ord) done a w:=by
 obtain⟨⟨k1,k2⟩,k3,k4⟩:=jgE hk
 exact⟨k3,k4,.inl ⟨k1,k2,o,v,ho,.inr (.inl ⟨hw,fun w1=>by rw[hv w1];exact⟨rfl,rfl⟩⟩),h⟩⟩
theorem jtl(o:Oper)(v:Value)(ho:l[k]?=some o)(hk:joB l z done k=true)(he:jor l.toArray z k=true)(hw:Region.wanted o (yielded l.toArray a.tmps)=true)
  (hv:∀ w1,D w w1->(execOp a.eval o).run P w1=.ok (.value v) w1) (h:MixZ P l z hd E D Q ord (k :: done) (a.put o.dst v) w):MixZ P l z hd E D Q (k :: ord) done a w:=by
 obtain⟨⟨k1,k2⟩,k3,k4⟩:=jgE hk
 exact⟨k3,k4,.inl ⟨k1,k2,o,v,ho,.inl ⟨he,.inl ⟨hw,fun w1 hc=>by rw[hv w1 hc];exact⟨rfl,rfl⟩⟩⟩,h⟩⟩
theorem jf5(p:Addr)(v:Value){t:TypeId}{x:Operand}{d:Option Tmp}{ty:TypeId}{pos:String}{af:Array Edge}{g:Option (Nat × Bool)}(ho:l[k]?=some ⟨d,.load t x,ty,pos,af,g⟩)(hk:joB l z done k=true)(he:jor l.toArray z k=true)
  (hw:Region.wanted ⟨d,.load t x,ty,pos,af,g⟩ (yielded l.toArray a.tmps)=true) (hx:a.eval x=.pointer (some p))
  (hv:∀ w1,D w w1->(Instr.loadAt t (.pointer (some p))).run P w1=.ok v w1) (h:MixZ P l z hd E D Q ord (k :: done) (a.put d v) w):MixZ P l z hd E D Q (k :: ord) done a w:=by
 refine jtl _ v ho hk he hw (fun w1 hc=>?_) h
 have:=hv w1 hc
 simp only[execOp,hx,Sem.run_bind,this,Result.andThen,Sem.run_pure]
def juf(l:List Oper)(z:Nat)(hd done:List Nat)(k:Nat):Bool:=Region.ready .any l.toArray (jbd l done) == [k] && (jbd l done).getD z true == false && k != z && hd.contains k
theorem jf3(o:Oper)(ho:l[k]?=some o)(hk:juf l z hd done k=true)(hw:Region.wanted o (yielded l.toArray a.tmps)=true)
  (h:∀ w1,E w w1->∀ K:Act->World->Prop,(∀ a' w',D w1 w'->MixZ P l z hd E D Q ord (k :: done) a' w'->K a' w')->o.wp P a w1 K NoQ):MixZ P l z hd E D Q (k :: ord) done a w:=by
 simp only[juf,Bool.and_eq_true,beq_iff_eq,bne_iff_ne,List.contains_iff_mem]at hk
 refine⟨hk.1.1.2,hk.1.2,.inr ⟨hk.1.1.1,hk.2,fun w1 he=>?_⟩⟩
 unfold wpOp;have ho':l.toArray[k]?=some o:=by simpa using ho
 simp only[ho',hw,if_true];exact .inl (h w1 he _ (fun _ _ h1 h2=>⟨h1,h2⟩))
def jxv(l:List Oper)(z:Nat)(done:List Nat):Bool:=Region.ready .any l.toArray (jbd l done) == [z] && (jbd l done).getD z true == false && (jbd l (z :: done)).getD z true == true && (Region.ready .any l.toArray (jbd l (z :: done))).isEmpty
theorem jf4(o:Oper)(ho:l[z]?=some o)(hk:jxv l z done=true)(hw:Region.wanted o (yielded l.toArray a.tmps)=true)
  (h:∀ w1,E w w1->∀ K:Act->World->Prop,(∀ a' w',Q a' w'->K a' w')->o.wp P a w1 K NoQ):MixZ P l z hd E D Q [] done a w:=by
 simp only[jxv,Bool.and_eq_true,beq_iff_eq,List.isEmpty_iff]at hk
 refine⟨hk.1.1.1,hk.1.1.2,hk.1.2,hk.2,fun w1 he=>?_⟩
 unfold wpOp;have ho':l.toArray[z]?=some o:=by simpa using ho
 simp only[ho',hw,if_true];exact .inl (h w1 he _ (fun _ _ h=>h))
end mixz
end
section
attribute [local go_sem] Oper.semAt_some
theorem jcT{p:vB}(h:p.size≠0):p.toList.isEmpty=false:=by
 rw[Bool.eq_false_iff];intro e;rw[List.isEmpty_iff,ByteArray.toList_eq]at e;exact h (by rw[<-jaC,e];rfl)
theorem PaEx.mk1{D:Nat->Prop}{W W':World}{P:PA}{v:Value}(h:PaAt P v (Grow D W W') W')(e:Ext W W'):PaEx D W P (.returned v) W':=⟨v,rfl,h,e⟩
theorem jxI(W:World)(D:Nat->Prop)(P:PA)(v:Value)(h:PaAt P v D W):vQ 310 #[.string ⟨#[]⟩,v] W (PaEx D W P):=by
 have H:=Hd h;clear h;go_enter Tryz.func310,Tryz.ntmps310;have hem:(⟨#[]⟩:vB).toList.isEmpty=true:=by rw[ByteArray.toList_eq];rfl
 go_wp2_with fail
 go_ret;exact PaEx.mk1 (H.o.mono (fun x hx=>.inl hx)) (ExtR W)
theorem jvJ(W:World)(D:Nat->Prop)(a q u:vB)(b:Nat)(hB:Blk W b (.cells #[.string q,.string u] 283))(h0:a.size≠0)(ha:a.size<=1000000)(hq:q.size<=1000000) :
  vQ 310 #[.string a,jiw b] W (PaEx D W (.leaf (a++q) u)):=by
 have hne:=jcT h0;have q0:=hB.cell (i:=0) (v:=.string q) vF;have q1:=hB.cell (i:=1) (v:=.string u) vF;have Q0:=Hd q0;have Q1:=Hd q1;have hT:=jvw b;unfold jiw at hT ⊢;clear hB h0 q0 q1;go_enter Tryz.func310,Tryz.ntmps310;go_wp2_with fail
 refine jai [0,1,2,3,4,5,6,7,8,9,10,11,12,13] (Ext) ExtR ExtT vY vY vY ?_;iterate 2 refine vK ?_
 refine jcg _ ((.pointer (some ⟨b,0,none⟩))) rfl vY rfl (fun w1 _=>by kernel_rfl) ?_;refine vS ?_
 refine vK ?_
 refine qKL ⟨b,0,none⟩ _ rfl (fun w1 h1=>jaz (fun w=>by kernel_rfl) (jaa Q0.o ((jaj _).trans h1))) ?_;refine vS ?_;iterate 2 refine vK ?_
 refine jcg _ ((.pointer (some ⟨b,0,none⟩))) rfl vY rfl (fun w1 _=>by kernel_rfl) ?_;refine vS ?_
 refine vK ?_
 refine qKL ⟨b,1,none⟩ _ rfl (fun w1 h1=>jaz (fun w=>by kernel_rfl) (jaa Q1.o ((jaj _).trans h1))) ?_;refine vS ?_
 refine vK ?_
 refine jd6 _ rfl vY rfl (fun wb hb K hK=>?_);refine jcy (v:=.pointer (some ⟨wb.heap.size,0,none⟩)) (w':=wb.alloc (.cells #[.string (a++q),.string u] 283)) vY (hK _ _ ((ExtR wb).alloc _) ?_);clear hK K;have hN:=Blk.new wb (.cells #[.string (a++q),.string u] 283);refine vS ?_;iterate 2 refine vK ?_
 refine qKE (fun w5 he=>?_);have hE:Ext W w5:=(((jaj W).trans hb).trans ((ExtR wb).alloc _)).trans he;have hB5:=hN.keeps he (fun h=>h);have hz:=hb.size;have hz:W.heap.size<=wb.heap.size:=hz;have hl:=hB5.lt;have HX:=Hd (And.intro hE (And.intro hB5 (And.intro hz hl)));clear he hN hb hE hB5 hz hl;go_wp2_with fail
 go_ret
 obtain⟨hE,hB5,hz,hl⟩:=HX.o
 exact PaEx.mk1 ⟨_,rfl,.inr ⟨hz,hl⟩,hB5⟩ hE
theorem jxH(W:World)(D:Nat->Prop)(a q:vB)(n:PA)(T:TypeId)(x:Value)(Dn:Nat->Prop)(b:Nat)(hB:Blk W b (.cells #[.string q,.iface T x] 286))(hv:PaAt n (.iface T x) Dn W)(hD:∀ x,Dn x->D x/\x < W.heap.size)(h0:a.size≠0)(ha:a.size<=1000000)(hq:q.size<=1000000) :
  vQ 310 #[.string a,extV b] W (PaEx D W (.ext (a++q) n)):=by
 have hne:=jcT h0;have q0:=hB.cell (i:=0) (v:=.string q) vF;have q1:=hB.cell (i:=1) (v:=.iface T x) vF;have Q0:=Hd q0;have Q1:=Hd q1;have HV:=Hd (And.intro hv hD);have hT:=jxi b;have hT0:=jmq (extV b) (.inl ⟨b,rfl⟩);unfold extV at hT hT0 ⊢;clear hB h0 q0 q1 hv hD;go_enter Tryz.func310,Tryz.ntmps310;go_wp2_with fail
 refine jai [0,1,2,3,4,5,6,7,8,9,10,11,12,13] (Ext) ExtR ExtT vY vY vY ?_;iterate 2 refine vK ?_
 refine jcg _ ((.pointer (some ⟨b,0,none⟩))) rfl vY rfl (fun w1 _=>by kernel_rfl) ?_;refine vS ?_
 refine vK ?_
 refine qKL ⟨b,0,none⟩ _ rfl (fun w1 h1=>jaz (fun w=>by kernel_rfl) (jaa Q0.o ((jaj _).trans h1))) ?_;refine vS ?_;iterate 2 refine vK ?_
 refine jcg _ ((.pointer (some ⟨b,0,none⟩))) rfl vY rfl (fun w1 _=>by kernel_rfl) ?_;refine vS ?_
 refine vK ?_
 refine qKL ⟨b,1,none⟩ _ rfl (fun w1 h1=>jaz (fun w=>by kernel_rfl) (jaa Q1.o ((jaj _).trans h1))) ?_;refine vS ?_
 refine vK ?_
 refine jd6 _ rfl vY rfl (fun wb hb K hK=>?_);refine jcy (v:=.pointer (some ⟨wb.heap.size,0,none⟩)) (w':=wb.alloc (.cells #[.string (a++q),.iface T x] 286)) vY (hK _ _ ((ExtR wb).alloc _) ?_);clear hK K;have hN:=Blk.new wb (.cells #[.string (a++q),.iface T x] 286);refine vS ?_;iterate 2 refine vK ?_
 refine qKE (fun w5 he=>?_);have hE:Ext W w5:=(((jaj W).trans hb).trans ((ExtR wb).alloc _)).trans he;have hB5:=hN.keeps he (fun h=>h);have hz:=hb.size;have hz:W.heap.size<=wb.heap.size:=hz;have hl:=hB5.lt;have HX:=Hd (And.intro hE (And.intro hB5 (And.intro hz hl)));clear he hN hb hE hB5 hz hl;go_wp2_with fail
 go_ret
 obtain⟨hE,hB5,hz,hl⟩:=HX.o
 obtain⟨hv,hD⟩:=HV.o
 exact PaEx.mk1 ⟨_,T,x,Dn,rfl,.inr ⟨hz,hl⟩,hB5,hv.keeps hE n (.iface T x) Dn (fun _ _ e=>e),fun e=>by have:=(hD _ e).2;omega,fun x hx=>.inl (hD x hx).1⟩ hE
theorem jyQ(W:World)(D:Nat->Prop)(a:vB)(u:vB)(ks:Nat->PA)(b:Nat)(h:PaO (.br u ks) (brV b) D W)(h0:a.size≠0) :
  vQ 310 #[.string a,brV b] W (PaEx D W (.ext a (.br u ks))):=by
 have hne:=jcT h0;have HV:=Hd h;have hT:=jyE b;have hT0:=jmq (brV b) (.inr (.inl ⟨b,rfl⟩));have hT1:=jum (brV b) (.inl ⟨b,rfl⟩);unfold brV at hT hT0 hT1 ⊢;clear h h0;go_enter Tryz.func310,Tryz.ntmps310;go_wp2_with fail
 go_ret;have hE:Ext W (W.alloc (.cells #[.string a,brV b] 286)):=(ExtR W).alloc _;have hB:=Blk.new W (.cells #[.string a,brV b] 286);exact PaEx.mk1 ⟨_,_,_,D,rfl,.inr ⟨Nat.le_refl _,hB.lt⟩,hB,HV.o.at'.keeps hE _ _ _ (fun _ _ e=>e),fun e=>by have:=HV.o.lt _ e;omega,fun x hx=>.inl hx⟩ hE
theorem jyR(W:World)(D:Nat->Prop)(a:vB)(h0:a.size≠0):vQ 310 #[.string a,noV] W (PaEx D W .no):=by
 have hne:=jcT h0;have hT0:=jmq noV (.inr (.inr rfl));have hT1:=jum noV (.inr rfl);have hT2:=jyF;unfold noV at hT0 hT1 hT2 ⊢;clear h0;go_enter Tryz.func310,Tryz.ntmps310;go_wp2_with fail
 go_ret;exact PaEx.mk1 rfl (ExtR W)
theorem pj_c(W:World)(D:Nat->Prop)(a:vB)(P:PA)(v:Value)(h:PaO P v D W)(hn:P.isNil=false)(ha:a.size<=1000000)(hd:Dp P 1000000) :
  vQ 310 #[.string a,v] W (PaEx D W (jb8 a P)):=by
 unfold jb8
 by_cases h0:a.size=0
 ·rw[if_pos h0,jbh h0];exact jxI W D P v h.at'
 rw[if_neg h0];cases P with
 | nil=>cases hn
 | no=>obtain rfl:v=noV:=h.at';exact jyR W D a h0
 | leaf q u =>
  obtain⟨b,rfl,h1,h2⟩:=h.at'
  exact jvJ W D a q u b h2 h0 ha hd
 | ext q n =>
  obtain⟨b,T,x,Dn,rfl,h1,h2,h3,h4,h5⟩:=h.at'
  exact jxH W D a q n T x Dn b h2 h3 (fun x hx=>⟨h5 x hx,h.lt x (h5 x hx)⟩) h0 ha hd.1
 | br u ks =>
  obtain⟨b,vk,Dk,rfl,h1,h2,h3,h4⟩:=h.at'
  exact jyQ W D a u ks b h h0
end
section
attribute [local go_sem] Oper.semAt_some
theorem jdn{a:vB}{P:PA}(h:P.isNil=false):(jb8 a P).isNil=false:=by
 unfold jb8;split
 ·exact h
 ·cases P <;> rfl
theorem jh7:∀ (P:PA) (p u:vB),(putP P p u).isNil=false
 | .nil,_,_=>rfl
 | .no,_,_=>rfl
 | .leaf q v,p,u=>by
  unfold putP;split
  ·rfl
  ·refine jdn ?_
   rw[jcH];split
   ·rw[jcH];split <;> rfl
   ·rw[jcH];split <;> rfl
 | .ext q n,p,u=>by
  unfold putP;split
  ·exact jdn (jh7 n _ _)
  ·refine jdn ?_
   rw[jcH];split <;> rfl
 | .br v ks,p,u=>by
  unfold putP;split <;> rfl
theorem jcz{P:Program}{a:Act}{w:World}{d:Option Tmp}{x:Operand}{name:String}{args:Array Operand}{ats:Array TypeId}{ty:TypeId}{pos:String}{af:Array Edge}{g:Option (Nat × Bool)}{T:TypeId}{v r:Value}{f:FuncId}{vs:Array Value}(hx:a.eval x=.iface T v)
  (hm:(Go.method (P.types.size+Made.depth) T v name).run P w=.ok (f,r) w) (eg:∀ args w,(callFunc f args).run P w=.ok (.enter f args) w) (hv:args.map a.eval=vs) :
  (execOp a.eval ⟨d,.call { callee:=.invoke x name,args:=args,argTypes:=ats },ty,pos,af,g⟩).run P w=.ok (.enter f (#[r]++vs)) w:=by
 subst hv;have h0:(#[Value.iface T v]++args.map a.eval)[0]?=some (.iface T v):=by simp[Array.getElem?_append]
 have h1:(#[Value.iface T v]++args.map a.eval).extract 1 (#[Value.iface T v]++args.map a.eval).size=args.map a.eval:=by simp
 simp only[execOp,resolve,hx,Sem.run_bind,Sem.run_pure,Result.andThen,invoke,h0,h1,callMethod,run_program,hm,eg]
def jjM:PA->FuncId
 | .leaf _ _=>308
 | .ext _ _=>314
 | .br _ _=>309
 | _=>322
def jeV:PA->FuncId
 | .leaf _ _=>305
 | .ext _ _=>311
 | .br _ _=>315
 | _=>319
def jfF:PA->FuncId
 | .leaf _ _=>306
 | .ext _ _=>312
 | .br _ _=>316
 | _=>320
def jlf:PA->FuncId
 | .leaf _ _=>307
 | .ext _ _=>313
 | .br _ _=>317
 | _=>321
set_option maxRecDepth 100000
theorem jhF(P:PA):∀ args w,(callFunc (jjM P) args).run Tryz.prog w=.ok (.enter (jjM P) args) w:=by intro args w;cases P <;> kernel_rfl
theorem jfc(P:PA):∀ args w,(callFunc (jeV P) args).run Tryz.prog w=.ok (.enter (jeV P) args) w:=by intro args w;cases P <;> kernel_rfl
theorem jdY(P:PA):∀ args w,(callFunc (jfF P) args).run Tryz.prog w=.ok (.enter (jfF P) args) w:=by intro args w;cases P <;> kernel_rfl
theorem jot(P:PA):∀ args w,(callFunc (jlf P) args).run Tryz.prog w=.ok (.enter (jlf P) args) w:=by intro args w;cases P <;> kernel_rfl
structure jwB(P:PA)(T:TypeId)(x:Value):Prop where
 put:∀ w,(Go.method (Tryz.prog.types.size+Made.depth) T x "guilloche/trie.put").run Tryz.prog w=.ok (jjM P,x) w
 drop:∀ w,(Go.method (Tryz.prog.types.size+Made.depth) T x "guilloche/trie.drop").run Tryz.prog w=.ok (jeV P,x) w
 ent:∀ w,(Go.method (Tryz.prog.types.size+Made.depth) T x "guilloche/trie.entries").run Tryz.prog w=.ok (jfF P,x) w
 form:∀ w,(Go.method (Tryz.prog.types.size+Made.depth) T x "guilloche/trie.form").run Tryz.prog w=.ok (jlf P,x) w
theorem PaAt.meth{P:PA}{T:TypeId}{x:Value}{D:Nat->Prop}{W:World}(h:PaAt P (.iface T x) D W):jwB P T x:=by
 cases P with
 | nil=>cases h
 | no =>
  have h:Value.iface T x=noV:=h;unfold noV at h;injection h with h1 h2;subst h1 h2
  exact⟨fun w=>by kernel_rfl,fun w=>by kernel_rfl,fun w=>by kernel_rfl,fun w=>by kernel_rfl⟩
 | leaf q u =>
  obtain⟨b,h,_⟩:=h
  unfold jiw at h;injection h with h1 h2;subst h1 h2
  exact⟨fun w=>by kernel_rfl,fun w=>by kernel_rfl,fun w=>by kernel_rfl,fun w=>by kernel_rfl⟩
 | ext q n =>
  obtain⟨b,_,_,_,h,_⟩:=h
  unfold extV at h;injection h with h1 h2;subst h1 h2
  exact⟨fun w=>by kernel_rfl,fun w=>by kernel_rfl,fun w=>by kernel_rfl,fun w=>by kernel_rfl⟩
 | br u ks =>
  obtain⟨b,_,_,h,_⟩:=h
  unfold brV at h;injection h with h1 h2;subst h1 h2
  exact⟨fun w=>by kernel_rfl,fun w=>by kernel_rfl,fun w=>by kernel_rfl,fun w=>by kernel_rfl⟩
theorem jvD:jwB .no 292 (.agg #[]):=PaAt.meth (D:=fun _=>True) (W:={ (default:World)with heap:=#[] }) rfl
def PutC(P:PA):Prop:=∀ (W:World) (T:TypeId) (x:Value) (D:Nat->Prop) (p u:vB),PaO P (.iface T x) D W->p.size<=900000->jat p=true->Dp P 900000 ->
 vQ (jjM P) #[x,.string p,.string u] W (PaTo D W (putP P p u))
theorem PaTo.mk1{D:Nat->Prop}{W W':World}{P:PA}{v:Value}(h:PaAt P v (Grow D W W') W')(e:jae D W W'):PaTo D W P (.returned v) W':=⟨v,rfl,h,e⟩
theorem jmg(T:TypeId)(x:Value)(w:World):(binOp .eql 100 (.iface T x) .nilIface).run Tryz.prog w=.ok (.bool false) w:=by kernel_rfl
theorem jxg(w:World):(binOp .eql 100 .nilIface .nilIface).run Tryz.prog w=.ok (.bool true) w:=by kernel_rfl
theorem jgo(u:vB)(vk:Nat->Value):(brC u vk).length=17:=by simp[brC]
theorem jem(u:vB)(vk:Nat->Value){i:Nat}(h:i < 16):(brC u vk)[1+i]?=some (vk i):=by
 rw[Nat.add_comm];show ((List.range 16).map vk)[i]?=_;rw[List.getElem?_map,List.getElem?_range h];rfl
def setV(vk:Nat->Value)(i:Nat)(v:Value):Nat->Value:=fun j=>if j=i then v else vk j
theorem jpF(u:vB)(vk:Nat->Value){i:Nat}(h:i < 16)(v:Value):(brC u vk).toArray.setIfInBounds (1+i) v=(brC u (setV vk i v)).toArray:=by
 have e:(brC u vk).set (1+i) v=brC u (setV vk i v):=by
  rw[Nat.add_comm];show Value.string u ::((List.range 16).map vk).set i v=Value.string u ::(List.range 16).map (setV vk i v)
  congr 1
  apply List.ext_getElem?;intro j;rw[List.getElem?_set]
  by_cases hj:i=j
  ·subst hj
   rw[if_pos rfl,if_pos (by simpa using h),List.getElem?_map,List.getElem?_range h];simp[setV]
  ·rw[if_neg hj]
   by_cases hj16:j < 16
   ·rw[List.getElem?_map,List.getElem?_map,List.getElem?_range hj16]
    simp[setV,Ne.symm hj]
   ·rw[List.getElem?_eq_none (by simp;omega),List.getElem?_eq_none (by simp;omega)]
 rw[<-e];simp
theorem ju3(u u':vB)(vk:Nat->Value):(brC u vk).toArray.setIfInBounds 0 (.string u')=(brC u' vk).toArray:=by simp[brC]
structure BrAt(u:vB)(ks:Nat->PA)(b:Nat)(vk:Nat->Value)(Dk:Nat->Nat->Prop)(D:Nat->Prop)(W:World):Prop where
 mem:D b
 blk:Blk W b (.cells (brC u vk).toArray 290)
 kid:∀ i,i < 16->PaAt (ks i) (vk i) (Dk i) W/\¬ Dk i b/\∀ x,Dk i x->D x
 apart:∀ i j,i < 16->j < 16->i≠j->∀ x,Dk i x->¬ Dk j x
 lt:∀ x,D x->x < W.heap.size
theorem BrAt.pa{u:vB}{ks:Nat->PA}{b:Nat}{vk:Nat->Value}{Dk:Nat->Nat->Prop}{D:Nat->Prop}{W:World}(h:BrAt u ks b vk Dk D W):PaO (.br u ks) (brV b) D W:=
 ⟨⟨b,vk,Dk,rfl,h.mem,h.blk,h.kid,h.apart⟩,h.lt⟩
theorem PaO.br{u:vB}{ks:Nat->PA}{b:Nat}{D:Nat->Prop}{W:World}(h:PaO (.br u ks) (brV b) D W):∃ vk Dk,BrAt u ks b vk Dk D W:=by
 obtain⟨b',vk,Dk,e,h1,h2,h3,h4⟩:=h.at'
 unfold brV at e;injection e with _ e;injection e with e;injection e with e;injection e with e;subst e
 exact⟨vk,Dk,h1,h2,h3,h4,h.lt⟩
theorem BrAt.keeps{F:BSet}{u:vB}{ks:Nat->PA}{b:Nat}{vk:Nat->Value}{Dk:Nat->Nat->Prop}{D:Nat->Prop}{W W':World}(h:BrAt u ks b vk Dk D W)(k:jae F W W')(hF:∀ x,D x->¬ F x):BrAt u ks b vk Dk D W':=
 ⟨h.mem,h.blk.keeps k (hF b h.mem),fun i hi=>⟨(h.kid i hi).1.keeps k _ _ _ (fun x hx=>hF x ((h.kid i hi).2.2 x hx)),(h.kid i hi).2⟩,h.apart,fun x hx=>Nat.lt_of_lt_of_le (h.lt x hx) k.size⟩
theorem BrAt.val{u:vB}{ks:Nat->PA}{b:Nat}{vk:Nat->Value}{Dk:Nat->Nat->Prop}{D:Nat->Prop}{W:World}(h:BrAt u ks b vk Dk D W)(u':vB):BrAt u' ks b vk Dk D (W.setCell ⟨b,0,none⟩ (.string u')):=by
 have K:=jae.oneSet W ⟨b,0,none⟩ (.string u');have hB:=h.blk.set_same (i:=0) (.string u');rw[ju3]at hB
 exact⟨h.mem,hB,fun i hi=>⟨(h.kid i hi).1.keeps K _ _ _ (fun x hx e=>(h.kid i hi).2.1 (by have e:x=b:=e;rw[<-e];exact hx)),(h.kid i hi).2⟩,h.apart,fun x hx=>Nat.lt_of_lt_of_le (h.lt x hx) K.size⟩
theorem BrAt.turn{u:vB}{ks:Nat->PA}{b:Nat}{vk:Nat->Value}{Dk:Nat->Nat->Prop}{D:Nat->Prop}{W W1:World}(h:BrAt u ks b vk Dk D W){i:Nat}(hi:i < 16){P:PA}{v:Value}(k:jae (Dk i) W W1)(hP:PaAt P v (Grow (Dk i) W W1) W1) :
  BrAt u (setK ks i P) b (setV vk i v) (fun j=>if j=i then Grow (Dk i) W W1 else Dk j) (Grow D W W1) (W1.setCell ⟨b,1+i,none⟩ v):=by
 have K:=jae.oneSet W1 ⟨b,1+i,none⟩ v;have hB:=(h.blk.keeps k (h.kid i hi).2.1).set_same (i:=1+i) v;rw[jpF u vk hi]at hB;have hbl:=h.lt b h.mem
 refine⟨.inl h.mem,hB,fun j hj=>?_,fun j l hj hl hne x hx hx'=>?_,fun x hx=>?_⟩
 ·by_cases e:j=i
  ·subst e
   simp only[if_pos,jcb];rw[show setV vk j v j=v from if_pos rfl]
   refine⟨hP.keeps K _ _ _ (fun x hx e=>?_),fun e=>?_,fun x hx=>?_⟩
   ·have e:x=b:=e
    rw[e]at hx;rcases hx with hx | hx
    ·exact (h.kid j hi).2.1 hx
    ·omega
   ·rcases e with e | e
    ·exact (h.kid j hi).2.1 e
    ·omega
   ·rcases hx with hx | hx
    ·exact .inl ((h.kid j hi).2.2 x hx)
    ·exact .inr hx
  ·simp only[if_neg e]
   rw[jey _ _ e,show setV vk i v j=vk j from if_neg e]
   refine⟨((h.kid j hj).1.keeps k _ _ _ (fun x hx hx'=>h.apart j i hj hi e x hx hx')).keeps K _ _ _ (fun x hx e=>?_),(h.kid j hj).2.1,fun x hx=>.inl ((h.kid j hj).2.2 x hx)⟩
   have e:x=b:=e;rw[e]at hx;exact (h.kid j hj).2.1 hx
 ·have far:∀ m,m < 16->Dk m x->¬(W.heap.size<=x/\x < W1.heap.size):=fun m hm hd e=>by have:=h.lt x ((h.kid m hm).2.2 x hd);omega
  by_cases e:j=i
  ·subst e
   have g1:Grow (Dk j) W W1 x:=by simpa using hx
   have g2:Dk l x:=by simpa [Ne.symm hne]using hx'
   rcases g1 with g1 | g1
   ·exact h.apart j l hj hl hne x g1 g2
   ·exact far l hl g2 g1
  ·have g1:Dk j x:=by simpa [e]using hx
   by_cases e2:l=i
   ·subst e2
    have g2:Grow (Dk l) W W1 x:=by simpa using hx'
    rcases g2 with g2 | g2
    ·exact h.apart j l hj hl hne x g1 g2
    ·exact far j hj g1 g2
   ·have g2:Dk l x:=by simpa [e2]using hx'
    exact h.apart j l hj hl hne x g1 g2
 ·exact Nat.lt_of_lt_of_le (jer h.lt k x hx) K.size
theorem BrAt.turn_keeps{u:vB}{ks:Nat->PA}{b:Nat}{vk:Nat->Value}{Dk:Nat->Nat->Prop}{D:Nat->Prop}{W W1:World}(h:BrAt u ks b vk Dk D W){i:Nat}(hi:i < 16)(k:jae (Dk i) W W1)(v:Value):jae D W (W1.setCell ⟨b,1+i,none⟩ v):=
 (k.mono (fun x _ hx=>(h.kid i hi).2.2 x hx)).trans' (jae.oneSet W1 ⟨b,1+i,none⟩ v) (fun x _ e=>by have e:x=b:=e;rw[e];exact h.mem)
theorem jq4(W:World)(D:Nat->Prop)(p u:vB):vQ 322 #[.agg #[],.string p,.string u] W (PaTo D W (.leaf p u)):=by
 go_enter Tryz.func322,Tryz.ntmps322;go_wp2_with fail
 go_ret;have hE:=((ExtR W).alloc (.cells #[] 292)).alloc (.cells #[.string p,.string u] 283);have hB:=Blk.new (W.alloc (.cells #[] 292)) (.cells #[.string p,.string u] 283);rw[World.size_alloc]at hB;exact PaTo.mk1 ⟨_,rfl,.inr ⟨Nat.le_succ _,hB.lt⟩,hB⟩ (hE.mono (fun _ _ e=>e.elim))
theorem jmX(W:World)(D:Nat->Prop)(u0 u:vB)(ks:Nat->PA)(b:Nat)(h:PaO (.br u0 ks) (brV b) D W):vQ 309 #[.pointer (some ⟨b,0,none⟩),.string ⟨#[]⟩,.string u] W (fun e w'=>e=.returned (brV b)/\PaTo D W (.br u ks) e w'):=by
 obtain⟨vk,Dk,hb⟩:=h.br
 have q0:=hb.blk.cellL (i:=0) (v:=.string u0) vF;have f0:W.frozen? ⟨b,0,none⟩=false:=hb.blk.frozen;have H:=Hd hb;have hem:(⟨#[]⟩:vB).toList.isEmpty=true:=by rw[ByteArray.toList_eq];rfl
 clear h hb;go_enter Tryz.func309,Tryz.ntmps309;go_wp2_with fail
 go_ret;have K:=jae.oneSet W ⟨b,0,none⟩ (.string u)
 exact⟨rfl,PaTo.mk1 ((H.o.val u).pa.at'.mono (fun x hx=>.inl hx)) (K.mono (fun x _ e=>by have e:x=b:=e;rw[e];exact H.o.mem))⟩
theorem jsu(W:World)(D:Nat->Prop)(u0 u:vB)(ks:Nat->PA)(b:Nat)(h:PaO (.br u0 ks) (brV b) D W)(p:vB)(h0:p.size≠0)(hp:jat p=true)(hs:p.size<=900000)(hn:(ks (jaq p)).isNil=false)(hd:Dp (ks (jaq p)) 900000)(hk:PutC (ks (jaq p))) :
  vQ 309 #[.pointer (some ⟨b,0,none⟩),.string p,.string u] W (fun e w'=>e=.returned (brV b)/\PaTo D W (.br u0 (setK ks (jaq p) (putP (ks (jaq p)) (jbm p) u))) e w'):=by
 obtain⟨vk,Dk,hb⟩:=h.br
 obtain⟨y,t,hy⟩:=jcc h0
 obtain⟨e1,e2⟩:=jbw hy
 have hi16:=jdx hp h0
 obtain⟨g0,hg0⟩:=jcw hy
 have hne:=jcT h0;have hval:=jcj hp;have hrs:(jbm p).size<=900000:=by unfold jbm;rw[jaR];omega
 have hI:jaq p=(p[0]'g0).toNat:=by rw[e1,hg0]
 have hkid:=hb.kid (jaq p) hi16
 obtain⟨T,x,hvk⟩:=hkid.1.form hn
 have q1:=hb.blk.cellL (jem u0 vk hi16);rw[hvk]at q1;have HK:=Hd hk;have HB:=Hd hb;have HM:=Hd ((show PaAt (ks (jaq p)) (.iface T x) (Dk (jaq p)) W by rw[<-hvk];exact hkid.1).meth);have HKD:=Hd (show PaAt (ks (jaq p)) (.iface T x) (Dk (jaq p)) W by rw[<-hvk];exact hkid.1);have HDP:=Hd hd;clear hb hkid hk hd;have CALLEE:=Hd (show ∀ wb,Ext W wb->vQ (jjM (ks (jaq p))) #[x,.string (jbm p),.string u] wb (PaTo (Dk (jaq p)) wb (putP (ks (jaq p)) (jbm p) u))from fun wb e=>HK.o wb T x _ _ _ ⟨HKD.o.keeps e _ _ _ (fun _ _ e=>e),fun z hz=>Nat.lt_of_lt_of_le (HB.o.lt z ((HB.o.kid _ hi16).2.2 z hz)) e.size⟩ hrs hval HDP.o);have hQ:=jmg T x;have Q1:=Hd q1;have HNF:=Hd (show ¬(Dk (jaq p) b\/W.heap.size<=b)from fun e=>e.elim (HB.o.kid _ hi16).2.1 (fun e=>by have:=HB.o.lt b HB.o.mem;omega));have HHI:=Hd hI;have HI16:=Hd hi16;have HVL:=Hd (And.intro hval hrs);have c1:(0:Int) < (p.size:Int):=by omega
 have c2:((p[0]'g0).toNat:Int) < 16:=by omega
 have c3:(1:Int)<=(p.size:Int):=by omega
 rw[hI]at q1;have hlt16:(p[0]'g0).toNat < 16:=by omega
 obtain⟨i,hi⟩:=vE (p[0]'g0).toNat
 have HIE:=Hd hi;clear h hvk hy e1 e2 h0 hp hn hg0 hval hrs hi16 hI hi;go_enter Tryz.func309,Tryz.ntmps309;go_wp2_with fail
 refine jc2 [0,1,2,3,4,5,6,7,8,9,10,11,12,14,15,13,16] 17 [13] Ext (jae (fun z=>Dk (jaq p) z\/W.heap.size<=z)) ExtR ExtT (fun x y z h k=>jae.trans h k) (fun x y h=>h.mono (fun _ _ h=>h.elim)) vY vY vY ?_;iterate 4 refine vZ ?_
 refine jcx _ ((.pointer (some ⟨b,0,none⟩))) rfl vY rfl (fun w1=>by kernel_rfl) ?_;refine vS ?_;iterate 2 refine vZ ?_
 refine jf5 ⟨b,1+(p[0]'g0).toNat,none⟩ _ rfl vY vY rfl rfl (fun w1 h1=>jaz (fun w=>by kernel_rfl) (by rw[<-HHI.o];exact jaw Q1.o (((jae.refl (fun z=>Dk (jaq p) z\/W.heap.size<=z) W).drew).trans h1) (by exact HNF.o))) ?_;refine vS ?_;iterate 3 refine vZ ?_
 refine jcx _ (.iface T x) rfl vY rfl (fun w1=>by kernel_rfl) ?_;refine vS ?_
 refine vZ ?_
 refine jcx _ ((.pointer (some ⟨b,0,none⟩))) rfl vY rfl (fun w1=>by kernel_rfl) ?_;refine vS ?_
 refine vZ ?_
 refine jf3 _ rfl vY rfl (fun wb hb K hK=>?_);have kb:Ext W wb:=(jaj _).trans hb;refine jbv (jcz (f:=jjM (ks (jaq p))) (vs:=#[.string (jbm p),.string u]) rfl (HM.o.put _) (jhF _) vY) ?_;refine (CALLEE.o wb kb).mono ?_;rintro e w2 ⟨v2,rfl,hP2,hk2⟩
 refine⟨v2,rfl,hK _ _ (hk2.mono (fun z _ hz=>.inl hz)) ?_⟩
 have HS:=Hd (And.intro kb (And.intro hP2 hk2));clear hK K hb kb hP2 hk2;refine vS ?_
 refine vZ ?_
 refine jf4 _ rfl vY rfl (fun wc hc K hK=>?_)
 obtain⟨hb,hP2,hk2⟩:=HS.o
 have hb2:=HB.o.keeps (F:=fun _=>False) (hb) (fun _ _ e=>e);have kc:jae (Dk (jaq p)) wb wc:=hk2.trans (hc.mono (fun _ _ e=>e.elim));have hPc:PaAt (putP (ks (jaq p)) (jbm p) u) v2 (Grow (Dk (jaq p)) wb wc) wc:=(hP2.keeps hc _ _ _ (fun _ _ e=>e)).mono (fun z hz=>hz.imp id (fun e=>⟨e.1,Nat.lt_of_lt_of_le e.2 hc.size⟩))
 obtain⟨T2,x2,rfl⟩:=hPc.form (jh7 _ _ _)
 have ht:=hb2.turn HI16.o kc hPc;have htk:=hb2.turn_keeps HI16.o kc (.iface T2 x2)
 obtain⟨old,q7⟩:∃ v,wc.cell? ⟨b,1+jaq p,none⟩=some v:=⟨_,(hb2.blk.keeps kc (hb2.kid _ HI16.o).2.1).cellL (List.getElem?_eq_getElem (by rw[jgo];have:=HI16.o;omega))⟩
 have f7:wc.frozen? ⟨b,1+jaq p,none⟩=false:=(hb2.blk.keeps kc (hb2.kid _ HI16.o).2.1).frozen;have HT:=Hd (And.intro ht (And.intro htk hb));rw[HHI.o]at q7 f7;clear hb hP2 hk2 hb2 kc hPc ht htk hc;go_simp;refine hK _ _ ?_;clear hK K q7 f7;go_wp2_with fail
 go_ret
 obtain⟨ht,htk,hb⟩:=HT.o
 rw[<-HHI.o]
 exact⟨rfl,PaTo.mk1 (ht.pa.at'.mono (fun z hz=>hz.imp id (fun e=>⟨Nat.le_trans hb.size e.1,Nat.lt_of_lt_of_le e.2 (jae.oneSet wc ⟨b,1+jaq p,none⟩ (.iface T2 x2)).size⟩))) (((hb.mono (fun _ _ e=>e.elim)):jae D W wb).trans htk)⟩
theorem jmW(W:World)(D:Nat->Prop)(u0 u:vB)(ks:Nat->PA)(b:Nat)(h:PaO (.br u0 ks) (brV b) D W)(p:vB)(h0:p.size≠0)(hp:jat p=true)(hs:p.size<=900000)(hn:(ks (jaq p)).isNil=true) :
  vQ 309 #[.pointer (some ⟨b,0,none⟩),.string p,.string u] W (fun e w'=>e=.returned (brV b)/\PaTo D W (.br u0 (setK ks (jaq p) (.leaf (jbm p) u))) e w'):=by
 obtain⟨vk,Dk,hb⟩:=h.br
 obtain⟨y,t,hy⟩:=jcc h0
 obtain⟨e1,e2⟩:=jbw hy
 have hi16:=jdx hp h0
 obtain⟨g0,hg0⟩:=jcw hy
 have hne:=jcT h0;have hval:=jcj hp;have hrs:(jbm p).size<=900000:=by unfold jbm;rw[jaR];omega
 have hI:jaq p=(p[0]'g0).toNat:=by rw[e1,hg0]
 have hkid:=hb.kid (jaq p) hi16;have hvk:vk (jaq p)=.nilIface:=by have:=hkid.1;rw[jbo hn]at this;exact this
 have q1:=hb.blk.cellL (jem u0 vk hi16);rw[hvk]at q1;have f1:W.frozen? ⟨b,1+jaq p,none⟩=false:=hb.blk.frozen
 obtain⟨W1,hW1⟩:=vE (W.setCell ⟨b,1+jaq p,none⟩ noV)
 have hb1:=hb.turn hi16 (P:=.no) (v:=noV) (jae.refl _ W) rfl;rw[<-hW1]at hb1
 obtain⟨Dk1,hDk1⟩:=vE (fun j=>if j=jaq p then Grow (Dk (jaq p)) W W else Dk j)
 obtain⟨ks1,hks1⟩:=vE (setK ks (jaq p) .no)
 have hks:setK ks1 (jaq p) (.leaf (jbm p) u)=setK ks (jaq p) (.leaf (jbm p) u):=by
  funext j;unfold setK;rw[hks1];unfold setK
  by_cases e:j=jaq p
  ·rw[if_pos e,if_pos e]
  ·rw[if_neg e,if_neg e,if_neg e]
 rw[<-hDk1, <-hks1]at hb1;have hq1:W1.cell? ⟨b,1+jaq p,none⟩=some noV:=by
  have:=hb1.blk.cellL (jem u0 _ hi16)
  rw[this];show some (setV vk (jaq p) noV (jaq p))=_;unfold setV;rw[if_pos rfl]
 have HW1:=Hd hW1;have HKS:=Hd hks;have HD1:Hid (∀ z,Grow D W W z->D z):=(fun z hz=>hz.elim id (fun e=>by omega));have HK1:=Hd (show jae D W W1 by rw[hW1];exact (jae.oneSet W ⟨b,1+jaq p,none⟩ noV).mono (fun z _ e=>by have e:z=b:=e;rw[e];exact hb.mem));have HB:=Hd hb1;have Q1:=Hd hq1;clear hDk1 hks1 hb1 hq1 hks hb hkid;unfold noV at hW1 Q1;have CALLEE:=Hd (show ∀ wb,Ext W1 wb->vQ 322 #[.agg #[],.string (jbm p),.string u] wb (PaTo (Dk1 (jaq p)) wb (.leaf (jbm p) u))from fun wb _=>jq4 wb _ _ _);have HNF:=Hd (show ¬(Dk1 (jaq p) b\/W1.heap.size<=b)from fun e=>e.elim (HB.o.kid _ hi16).2.1 (fun e=>by have:=HB.o.lt b HB.o.mem;omega));have HHI:=Hd hI;have HI16:=Hd hi16;have HVL:=Hd (And.intro hval hrs);have c1:(0:Int) < (p.size:Int):=by omega
 have c2:((p[0]'g0).toNat:Int) < 16:=by omega
 have c3:(1:Int)<=(p.size:Int):=by omega
 rw[hI]at q1 f1 hW1;have hlt16:(p[0]'g0).toNat < 16:=by omega
 obtain⟨i,hi⟩:=vE (p[0]'g0).toNat
 have HIE:=Hd hi;clear h hvk hy e1 e2 h0 hp hn hg0 hval hrs hi16 hI hi;go_enter Tryz.func309,Tryz.ntmps309;go_wp2_with fail
 rw[<-hW1];refine jc2 [0,1,2,3,4,5,6,7,8,9,10,11,12,14,15,13,16] 17 [13] Ext (jae (fun z=>Dk1 (jaq p) z\/W1.heap.size<=z)) ExtR ExtT (fun x y z h k=>jae.trans h k) (fun x y h=>h.mono (fun _ _ h=>h.elim)) vY vY vY ?_;iterate 4 refine vZ ?_
 refine jcx _ ((.pointer (some ⟨b,0,none⟩))) rfl vY rfl (fun w1=>by kernel_rfl) ?_;refine vS ?_;iterate 2 refine vZ ?_
 refine jf5 ⟨b,1+(p[0]'g0).toNat,none⟩ _ rfl vY vY rfl rfl (fun w1 h1=>jaz (fun w=>by kernel_rfl) (by rw[<-HHI.o];exact jaw Q1.o (((jae.refl (fun z=>Dk1 (jaq p) z\/W1.heap.size<=z) W1).drew).trans h1) (by exact HNF.o))) ?_;refine vS ?_;iterate 3 refine vZ ?_
 refine jcx _ (.iface 292 (.agg #[])) rfl vY rfl (fun w1=>by kernel_rfl) ?_;refine vS ?_
 refine vZ ?_
 refine jcx _ ((.pointer (some ⟨b,0,none⟩))) rfl vY rfl (fun w1=>by kernel_rfl) ?_;refine vS ?_
 refine vZ ?_
 refine jf3 _ rfl vY rfl (fun wb hb K hK=>?_);have kb:Ext W1 wb:=(jaj _).trans hb;refine jbv (jcz (f:=322) (vs:=#[.string (jbm p),.string u]) rfl (jvD.put _) (fun args w=>by kernel_rfl) vY) ?_;refine (CALLEE.o wb kb).mono ?_;rintro e w2 ⟨v2,rfl,hP2,hk2⟩
 refine⟨v2,rfl,hK _ _ (hk2.mono (fun z _ hz=>.inl hz)) ?_⟩
 have HS:=Hd (And.intro kb (And.intro hP2 hk2));clear hK K hb kb hP2 hk2;refine vS ?_
 refine vZ ?_
 refine jf4 _ rfl vY rfl (fun wc hc K hK=>?_)
 obtain⟨hb,hP2,hk2⟩:=HS.o
 have hb2:=HB.o.keeps (F:=fun _=>False) (hb) (fun _ _ e=>e);have kc:jae (Dk1 (jaq p)) wb wc:=hk2.trans (hc.mono (fun _ _ e=>e.elim));have hPc:PaAt (PA.leaf (jbm p) u) v2 (Grow (Dk1 (jaq p)) wb wc) wc:=(hP2.keeps hc _ _ _ (fun _ _ e=>e)).mono (fun z hz=>hz.imp id (fun e=>⟨e.1,Nat.lt_of_lt_of_le e.2 hc.size⟩))
 obtain⟨T2,x2,rfl⟩:=hPc.form rfl
 have ht:=hb2.turn HI16.o kc hPc;have htk:=hb2.turn_keeps HI16.o kc (.iface T2 x2)
 obtain⟨old,q7⟩:∃ v,wc.cell? ⟨b,1+jaq p,none⟩=some v:=⟨_,(hb2.blk.keeps kc (hb2.kid _ HI16.o).2.1).cellL (List.getElem?_eq_getElem (by rw[jgo];have:=HI16.o;omega))⟩
 have f7:wc.frozen? ⟨b,1+jaq p,none⟩=false:=(hb2.blk.keeps kc (hb2.kid _ HI16.o).2.1).frozen;have HT:=Hd (And.intro ht (And.intro htk hb));rw[HHI.o]at q7 f7;clear hb hP2 hk2 hb2 kc hPc ht htk hc;go_simp;refine hK _ _ ?_;clear hK K q7 f7;go_wp2_with fail
 go_ret
 obtain⟨ht,htk,hb⟩:=HT.o
 rw[<-HHI.o];have hks:=HKS.o
 refine⟨rfl,PaTo.mk1 (PaAt.mono (fun z hz=>?_) (by rw[<-hks];exact ht.pa.at')) ((HK1.o.trans (hb.mono (fun _ _ e=>e.elim))).trans (htk.mono (fun z _ hz=>HD1.o z hz)))⟩
 rcases hz with hz | hz
 ·exact .inl (HD1.o z hz)
 ·exact .inr ⟨Nat.le_trans (Nat.le_trans HK1.o.size hb.size) hz.1,Nat.lt_of_lt_of_le hz.2 (jae.oneSet wc ⟨b,1+jaq p,none⟩ (.iface T2 x2)).size⟩
end
section
attribute [local go_sem] Oper.semAt_some
def AddP(D:Nat->Prop)(W:World)(b:Nat)(P:PA)(e:Ending)(w':World):Prop:=e=.returned (brV b)/\PaAt P (brV b) (Grow D W w') w'/\jae D W w'
theorem jjk(W:World)(D:Nat->Prop)(v:vB)(ks:Nat->PA)(b:Nat)(h:PaO (.br v ks) (brV b) D W)(p u:vB)(hp:jat p=true)(hs:p.size<=900000)(hf:∀ x t,p.data.toList=x :: t->(ks x.toNat).isNil=true) :
  vQ 309 #[.pointer (some ⟨b,0,none⟩),.string p,.string u] W (AddP D W b (addK (.br v ks) p u)):=by
 rw[jcH]
 by_cases h0:p.size=0
 ·rw[if_pos h0,jbh h0]
  refine (jmX W D v u ks b h).mono ?_;rintro e w' ⟨rfl,v',e,h1,h2⟩;injection e with e;subst e
  exact⟨rfl,h1,h2⟩
 ·rw[if_neg h0]
  obtain⟨x,t,hx⟩:=jcc h0
  refine (jmW W D v u ks b h p h0 hp hs (by rw[(jbw hx).1];exact hf x t hx)).mono ?_;rintro e w' ⟨rfl,v',e,h1,h2⟩;injection e with e;subst e
  exact⟨rfl,h1,h2⟩
theorem juj{W:World}{b:Nat}(h:Blk W b (.cells #[.string ⟨#[]⟩,.nilIface,.nilIface,.nilIface,.nilIface,.nilIface,.nilIface,.nilIface,.nilIface,.nilIface,.nilIface,.nilIface,.nilIface,.nilIface,.nilIface,.nilIface,.nilIface] 290)) :
  BrAt ⟨#[]⟩ (fun _=>.nil) b (fun _=>.nilIface) (fun _ _=>False) (fun x=>x=b) W:=
 ⟨rfl,h,fun i _=>⟨rfl,fun e=>e,fun _ e=>e.elim⟩,fun _ _ _ _ _ _ e=>e.elim,fun x e=>by rw[e];exact h.lt⟩
theorem AddP.br{D:Nat->Prop}{W w':World}{b:Nat}{P:PA}(h:PaAt P (brV b) (Grow D W w') w')(k:jae D W w')(hl:∀ x,D x->x < W.heap.size):PaO P (brV b) (Grow D W w') w':=⟨h,jer hl k⟩
theorem jqB(W:World)(D:Nat->Prop)(q v u:vB)(b:Nat)(hB:Blk W b (.cells #[.string q,.string v] 283)):vQ 308 #[.pointer (some ⟨b,0,none⟩),.string q,.string u] W (PaTo D W (.leaf q u)):=by
 have q0:=hB.cell (i:=0) (v:=.string q) vF;clear hB;have heq:(q.toList == q.toList)=true:=by simp
 go_enter Tryz.func308,Tryz.ntmps308;go_wp2_with fail
 go_ret;have hB:=Blk.new W (.cells #[.string q,.string u] 283);exact PaTo.mk1 ⟨_,rfl,.inr ⟨Nat.le_refl _,hB.lt⟩,hB⟩ (((ExtR W).alloc _).mono (fun _ _ e=>e.elim))
theorem jt6(q p v:vB):(∀ x t,(q.extract (jak q p) q.size).data.toList=x :: t->PA.isNil ((fun _=>PA.nil) x.toNat)=true)/\∃ v1 ks1,addK (.br ⟨#[]⟩ fun _=>.nil) (q.extract (jak q p) q.size) v=.br v1 ks1/\∀ x t,(p.extract (jak q p) p.size).data.toList=x :: t->(ks1 x.toNat).isNil=true:=by
 refine⟨fun _ _ _=>rfl,?_⟩
 obtain⟨a',b',ha,hb,ha',hb',hne⟩:=jcC q.data.toList p.data.toList
 have hka:(q.extract (jak q p) q.size).data.toList=a':=by rw[jdv,ha'];rfl
 have hkb:(p.extract (jak q p) p.size).data.toList=b':=by rw[jdv,hb'];rfl
 obtain⟨x1,e1⟩:∃ x,x=q.extract (jak q p) q.size:=⟨_,rfl⟩
 rw[<-e1]at hka ⊢;rw[jcH]
 by_cases h0:x1.size=0
 ·rw[if_pos h0];exact⟨_,_,rfl,fun _ _ _=>rfl⟩
 ·rw[if_neg h0]
  refine⟨_,_,rfl,fun y t hy=>?_⟩
  obtain⟨x,s,hx⟩:=jcc h0
  unfold setK;rw[(jbw hx).1,if_neg (jc1 (Ne.symm (hne x s y t (by rw[<-hka,hx]) (by rw[<-hkb,hy]))))];rfl
theorem joK(W:World)(D:Nat->Prop)(q v p u:vB)(b:Nat)(hB:Blk W b (.cells #[.string q,.string v] 283))(hne:p≠q)(hq:jat q=true)(hp:jat p=true)(hqs:q.size<=900000)(hps:p.size<=900000) :
  vQ 308 #[.pointer (some ⟨b,0,none⟩),.string p,.string u] W (PaTo D W (putP (.leaf q v) p u)):=by
 have q0:=hB.cell (i:=0) (v:=.string q) vF;have Q0:=Hd q0;have Q1:=Hd (hB.cell (i:=1) (v:=.string v) vF);have HB:=Hd hB;have heq:(p.toList == q.toList)=false:=by rw[jjI];exact decide_eq_false hne
 obtain⟨c1,c2⟩:=jeN q p
 have hput:putP (.leaf q v) p u=jb8 (p.extract 0 (jak q p)) (addK (addK (.br ⟨#[]⟩ fun _=>.nil) (q.extract (jak q p) q.size) v) (p.extract (jak q p) p.size) u):=by
  show (if p=q then PA.leaf p u else _)=_;rw[if_neg hne]
 have hfree:=jt6 q p v;have hcom:=fun w=>jfa w q p vO vO
 obtain⟨m,hm⟩:=vE (jak q p)
 rw[<-hm]at c1 c2 hput hfree hcom;rw[hput];have hs1:(q.extract m q.size).size<=900000:=by rw[jaR];omega
 have hs2:(p.extract m p.size).size<=900000:=by rw[jaR];omega
 have hs3:(p.extract 0 m).size<=900000:=by rw[ByteArray.size_extract];omega
 have hv1:jat (q.extract m q.size)=true:=jbg hq _ _;have hv2:jat (p.extract m p.size)=true:=jbg hp _ _
 obtain⟨hf1,v1,ks1,e1,hf2⟩:=hfree
 have hdj:Dp (addK (.br v1 ks1) (p.extract m p.size) u) 1000000:=jhA (by rw[<-e1];exact jhA (jg7 _ _) vO _) vO _;have hnj:(addK (.br v1 ks1) (p.extract m p.size) u).isNil=false:=by rw[jcH];split <;> rfl
 rw[e1];have HF:=Hd (And.intro (And.intro hf1 (And.intro e1 hf2)) (And.intro hs1 (And.intro hs2 (And.intro hs3 (And.intro hv1 hv2)))));have HDJ:=Hd (And.intro hdj hnj);have HC:=Hd hcom;have c1':(m:Int)<=(q.size:Int):=by omega
 have c2':(m:Int)<=(p.size:Int):=by omega
 clear hB hne hq hp hput hm hf1 hf2 e1 hdj hnj hs1 hs2 hs3 hv1 hv2 hcom;go_enter Tryz.func308,Tryz.ntmps308;go_wp2_with fail
 refine (HC.o _).mono ?_;rintro e w1 ⟨rfl,n,rfl⟩;go_wp2_with fail
 obtain⟨bb,hbb⟩:=vE W.heap.size
 obtain⟨W2,hW2⟩:=vE ((W.drewN n).alloc (.cells #[.string ⟨#[]⟩,.nilIface,.nilIface,.nilIface,.nilIface,.nilIface,.nilIface,.nilIface,.nilIface,.nilIface,.nilIface,.nilIface,.nilIface,.nilIface,.nilIface,.nilIface,.nilIface] 290))
 have hE2:Ext W W2:=by rw[hW2];exact ((ExtR W).drewN n).alloc _
 have hB2:BrAt ⟨#[]⟩ (fun _=>.nil) bb (fun _=>.nilIface) (fun _ _=>False) (fun x=>x=bb) W2:=by rw[hW2,hbb];exact juj (Blk.new (W.drewN n) _)
 have hb0:W.heap.size<=bb:=by rw[hbb];exact Nat.le_refl _
 have HE2:=Hd hE2;have HB2:=Hd hB2;have HB0:=Hd hb0;have HNB:=Hd (show ¬ W.heap.size<=b from by have:=HB.o.lt;omega);rw[<-hW2, <-hbb];clear hbb hW2 hE2 hB2 hb0;refine jaD [0,1,2,3,4,5,6,7,8,9,10,11] [11] Ext (jae (fun z=>W.heap.size<=z)) ExtR ExtT (fun x y z h k=>jae.trans h k) (fun x y h=>h.mono (fun _ _ h=>h.elim)) vY vY vY ?_;iterate 2 refine vD ?_
 refine qDV _ ((.pointer (some ⟨b,0,none⟩))) rfl (fun w1 _=>by kernel_rfl) ?_;refine vS ?_
 refine vD ?_
 refine qDL ⟨b,0,none⟩ _ rfl (fun w1 h1=>jaz (fun w=>by kernel_rfl) (jaw (jaa Q0.o HE2.o) (((jae.refl (fun z=>W.heap.size<=z) W2).drew).trans h1) (by exact HNB.o))) ?_;refine vS ?_;iterate 3 refine vD ?_
 refine qDV _ ((.pointer (some ⟨b,0,none⟩))) rfl (fun w1 _=>by kernel_rfl) ?_;refine vS ?_
 refine vD ?_
 refine qDL ⟨b,1,none⟩ _ rfl (fun w1 h1=>jaz (fun w=>by kernel_rfl) (jaw (jaa Q1.o HE2.o) (((jae.refl (fun z=>W.heap.size<=z) W2).drew).trans h1) (by exact HNB.o))) ?_;refine vS ?_;refine qDH _ rfl (fun wb hb K hK=>?_);have kb:Ext W2 wb:=(jaj _).trans hb
 obtain⟨hf1,e1,hf2⟩:=HF.o.1
 refine jbv (jay (vX 309) vY) ((jjk wb (fun x=>x=bb) ⟨#[]⟩ (fun _=>.nil) bb ((HB2.o.keeps kb (fun _ _ e=>e)).pa) (q.extract m q.size) v HF.o.2.2.2.2.1 HF.o.2.1 hf1).mono ?_);rintro e w3 ⟨rfl,hP3,hk3⟩
 refine⟨_,rfl,hK _ _ (hk3.mono (fun z _ e=>by have e:z=bb:=e;rw[e];exact HB0.o)) ?_⟩
 rw[e1]at hP3;have HS:=Hd (And.intro kb (And.intro hP3 hk3));clear hK K hb kb hP3 hk3 e1;refine vS ?_;refine qDE (fun wc hc=>?_)
 obtain⟨kb,hP3,hk3⟩:=HS.o
 have kc:jae (fun x=>x=bb) wb wc:=hk3.trans (hc.mono (fun _ _ e=>e.elim));have hPc:PaAt (.br v1 ks1) (brV bb) (Grow (fun x=>x=bb) wb wc) wc:=(hP3.keeps hc _ _ _ (fun _ _ e=>e)).mono (fun z hz=>hz.imp id (fun e=>⟨e.1,Nat.lt_of_lt_of_le e.2 hc.size⟩));have hOc:=AddP.br hPc kc (fun x e=>by have e:x=bb:=e;rw[e];exact Nat.lt_of_lt_of_le HB2.o.blk.lt kb.size);have hEc:Ext W wc:=(HE2.o.trans kb).trans' kc (fun x hx e=>by have e:x=bb:=e;have:=HB0.o;omega);have HOC:=Hd (And.intro hOc hEc);have HGR:Hid (∀ x,Grow (fun x=>x=bb) wb wc x->W.heap.size<=x):=(fun x hx=>hx.elim (fun e=>by rw[e];exact HB0.o) (fun e=>Nat.le_trans (Nat.le_trans HE2.o.size kb.size) e.1));clear hc kb hP3 hk3 kc hPc hOc hEc HS;go_wp2_with fail
 obtain⟨hf1,e1,hf2⟩:=HF.o.1
 refine (jjk wc _ v1 ks1 bb HOC.o.1 (p.extract m p.size) u HF.o.2.2.2.2.2 HF.o.2.2.1 hf2).mono ?_;rintro e w4 ⟨rfl,hP4,hk4⟩;have hO4:=AddP.br hP4 hk4 HOC.o.1.lt;have hE4:Ext W w4:=HOC.o.2.trans' hk4 (fun x hx e=>by have:=HGR.o x e;omega);have HG4:Hid (∀ x,Grow (Grow (fun x=>x=bb) wb wc) wc w4 x->W.heap.size<=x):=fun x hx=>hx.elim (HGR.o x) (fun e=>Nat.le_trans HOC.o.2.size e.1);have HO4:=Hd (And.intro hO4 hE4);clear hP4 hk4 hO4 hE4 e1 hf1 hf2;unfold brV;go_wp2_with fail
 refine (pj_c w4 _ (p.extract 0 m) _ (brV bb) HO4.o.1 HDJ.o.2 (by have:=HF.o.2.2.2.1;omega) HDJ.o.1).mono ?_;rintro e w5 ⟨v5,rfl,hP5,hE5⟩;have HZ:=Hd (And.intro hP5 hE5);clear hP5 hE5;go_wp2_with fail
 go_ret
 obtain⟨hP5,hE5⟩:=HZ.o
 exact PaTo.mk1 (hP5.mono (fun x hx=>.inr ⟨hx.elim (HG4.o x) (fun e=>Nat.le_trans HO4.o.2.size e.1),(jer HO4.o.1.lt hE5) x hx⟩)) ((HO4.o.2.trans hE5).mono (fun _ _ e=>e.elim))
theorem BrAt.give{u:vB}{ks:Nat->PA}{b:Nat}{vk:Nat->Value}{Dk:Nat->Nat->Prop}{D E:Nat->Prop}{W:World}(h:BrAt u ks b vk Dk D W){i:Nat}(hi:i < 16){P:PA}{v:Value}(hP:PaAt P v E W)(hE:∀ x,E x->¬ D x/\x < W.heap.size) :
  BrAt u (setK ks i P) b (setV vk i v) (fun j=>if j=i then E else Dk j) (fun x=>D x\/E x) (W.setCell ⟨b,1+i,none⟩ v):=by
 have K:=jae.oneSet W ⟨b,1+i,none⟩ v;have hB:=h.blk.set_same (i:=1+i) v;rw[jpF u vk hi]at hB
 refine⟨.inl h.mem,hB,fun j hj=>?_,fun j l hj hl hne x hx hx'=>?_,fun x hx=>?_⟩
 ·by_cases e:j=i
  ·subst e
   simp only[if_pos,jcb];rw[show setV vk j v j=v from if_pos rfl]
   refine⟨hP.keeps K _ _ _ (fun x hx e=>?_),fun e=>(hE b e).1 h.mem,fun x hx=>.inr hx⟩
   have e:x=b:=e;rw[e]at hx;exact (hE b hx).1 h.mem
  ·simp only[if_neg e]
   rw[jey _ _ e,show setV vk i v j=vk j from if_neg e]
   refine⟨(h.kid j hj).1.keeps K _ _ _ (fun x hx e=>?_),(h.kid j hj).2.1,fun x hx=>.inl ((h.kid j hj).2.2 x hx)⟩
   have e:x=b:=e;rw[e]at hx;exact (h.kid j hj).2.1 hx
 ·by_cases e:j=i
  ·subst e
   have g1:E x:=by simpa using hx
   have g2:Dk l x:=by simpa [Ne.symm hne]using hx'
   exact (hE x g1).1 ((h.kid l hl).2.2 x g2)
  ·have g1:Dk j x:=by simpa [e]using hx
   by_cases e2:l=i
   ·subst e2
    have g2:E x:=by simpa using hx'
    exact (hE x g2).1 ((h.kid j hj).2.2 x g1)
   ·have g2:Dk l x:=by simpa [e2]using hx'
    exact h.apart j l hj hl hne x g1 g2
 ·rcases hx with hx | hx
  ·exact Nat.lt_of_lt_of_le (h.lt x hx) K.size
  ·exact Nat.lt_of_lt_of_le (hE x hx).2 K.size
theorem jvq{q:vB}{m:Nat}(h:m < q.size):jaq (q.extract m q.size)=(q[m]).toNat:=by
 unfold jaq;have hl:m < q.data.toList.length:=by rw[jaC];exact h
 rw[jdv,List.drop_eq_getElem_cons hl];rfl
theorem jvf(W:World)(D:Nat->Prop)(q:vB)(n:PA)(T:TypeId)(x:Value)(Dn:Nat->Prop)(b:Nat)(hB:Blk W b (.cells #[.string q,.iface T x] 286))(hv:PaAt n (.iface T x) Dn W)(hbn:¬ Dn b)(hD:∀ x,Dn x->D x/\x < W.heap.size)(p u:vB)(hq:jat q=true)(hp:jat p=true)(hqs:q.size<=900000)(hps:p.size<=900000)(hd:Dp n 900000)(hk:PutC n)(hnil:n.isNil=false)(hf:jak q p=q.size) :
  vQ 314 #[.pointer (some ⟨b,0,none⟩),.string p,.string u] W (PaTo D W (jb8 q (putP n (p.extract q.size p.size) u))):=by
 have q0:=hB.cell (i:=0) (v:=.string q) vF;have q1:=hB.cell (i:=1) (v:=.iface T x) vF;have Q0:=Hd q0;have Q1:=Hd q1;have HB:=Hd hB;have HV:=Hd hv;have HD:Hid (∀ z,Dn z->D z/\z < W.heap.size):=hD
 obtain⟨c1,c2⟩:=jeN q p
 have hcom:=fun w=>jfa w q p vO vO;rw[hf]at c1 c2 hcom;have HC:=Hd hcom;have hbl:=hB.lt;have HNB:=Hd (show ¬(Dn b\/W.heap.size<=b)from fun e=>e.elim hbn (fun e=>by omega));have hval:jat (p.extract q.size p.size)=true:=jbg hp _ _;have hsz:(p.extract q.size p.size).size<=900000:=by rw[jaR];omega
 have HM:=Hd hv.meth;have CALLEE:=Hd (show ∀ wb,Ext W wb->vQ (jjM n) #[x,.string (p.extract q.size p.size),.string u] wb (PaTo Dn wb (putP n (p.extract q.size p.size) u))from fun wb e=>hk wb T x Dn _ _ ⟨hv.keeps e _ _ _ (fun _ _ e=>e),fun z hz=>Nat.lt_of_lt_of_le (hD z hz).2 e.size⟩ hsz hval hd);have HDP:Hid (Dp (putP n (p.extract q.size p.size) u) 1000000):=(jb6 _ _ _ (jm7 n 900000 _ u hd hsz) vO);have c2':(q.size:Int)<=(p.size:Int):=by omega
 have hqq:((q.size:Int) ==(q.size:Int))=true:=by simp
 clear hB hv hbn hD hq hp hd hk hf hval hsz hcom hbl;go_enter Tryz.func314,Tryz.ntmps314;go_wp2_with fail
 refine (HC.o _).mono ?_;rintro e w1 ⟨rfl,k,rfl⟩;have HKW:=Hd (show jae (fun z=>Dn z\/W.heap.size<=z) W ((W.drewN k).drew)from((jae.refl _ W).drewN k).drew);go_wp2_with fail
 refine jaD [0,1,2,3,4,5,6,7,8,9,10,11,12,13,14,15,16] [14,15] Ext (jae (fun z=>Dn z\/W.heap.size<=z)) ExtR ExtT (fun x y z h k=>jae.trans h k) (fun x y h=>h.mono (fun _ _ h=>h.elim)) vY vY vY ?_
 refine vD ?_
 refine qDV _ ((.pointer (some ⟨b,0,none⟩))) rfl (fun w1 _=>by kernel_rfl) ?_;refine vS ?_
 refine vD ?_
 refine qDL ⟨b,0,none⟩ _ rfl (fun w1 h1=>jaz (fun w=>by kernel_rfl) (jaw Q0.o (HKW.o.trans h1) (by exact HNB.o))) ?_;refine vS ?_
 refine vD ?_
 refine qDV _ ((.pointer (some ⟨b,0,none⟩))) rfl (fun w1 _=>by kernel_rfl) ?_;refine vS ?_
 refine vD ?_
 refine qDL ⟨b,1,none⟩ _ rfl (fun w1 h1=>jaz (fun w=>by kernel_rfl) (jaw Q1.o (HKW.o.trans h1) (by exact HNB.o))) ?_;refine vS ?_;iterate 4 refine vD ?_
 refine qDV _ (.iface T x) rfl (fun w1 _=>by kernel_rfl) ?_;refine vS ?_
 refine vD ?_
 refine qDH _ rfl (fun wb hb K hK=>?_);have kb:Ext W wb:=(((ExtR W).drewN k).drew).trans hb;refine jbv (jcz (f:=jjM n) (vs:=#[.string (p.extract q.size p.size),.string u]) rfl (HM.o.put _) (jhF _) vY) ?_;refine (CALLEE.o wb kb).mono ?_;rintro e w2 ⟨v2,rfl,hP2,hk2⟩
 refine⟨v2,rfl,hK _ _ (hk2.mono (fun z _ hz=>.inl hz)) ?_⟩
 have HS:=Hd (And.intro kb (And.intro hP2 hk2));clear hK K hb kb hP2 hk2;refine vS ?_;refine qDH _ rfl (fun wc hc K hK=>?_)
 obtain⟨kb,hP2,hk2⟩:=HS.o
 have kc:jae Dn wb wc:=hk2.trans (hc.mono (fun _ _ e=>e.elim));have hPc:PaAt (putP n (p.extract q.size p.size) u) v2 (Grow Dn wb wc) wc:=(hP2.keeps hc _ _ _ (fun _ _ e=>e)).mono (fun z hz=>hz.imp id (fun e=>⟨e.1,Nat.lt_of_lt_of_le e.2 hc.size⟩));have hOc:=PaTo.own hPc kc (fun z hz=>Nat.lt_of_lt_of_le (HD.o z hz).2 kb.size);refine jbv (jay (vX 310) vY) ((pj_c wc _ q _ v2 hOc (jh7 _ _ _) vO HDP.o).mono ?_);rintro e w5 ⟨v5,rfl,hP5,hE5⟩
 refine⟨v5,rfl,hK _ _ (hE5.mono (fun _ _ e=>e.elim)) ?_⟩
 have HZ:=Hd (And.intro kc (And.intro hP5 (And.intro hE5 (jer hOc.lt hE5))));clear hK K hc kb hP2 hk2 kc hPc hOc hP5 hE5;refine vS ?_
 refine vD ?_
 refine qDE (fun wd hd=>?_);have HQ:=Hd hd;clear hd;go_wp2_with fail
 go_ret
 obtain⟨kb,_,_⟩:=HS.o
 obtain⟨kc,hP5,hE5,hl5⟩:=HZ.o
 have hd:=HQ.o;refine PaTo.mk1 ((hP5.keeps hd _ _ _ (fun _ _ e=>e)).mono (fun z hz=>?_)) (((kb.mono (fun _ _ e=>e.elim):jae D W wb).trans (kc.mono (fun z _ hz=>(HD.o z hz).1))).trans ((hE5.trans hd).mono (fun _ _ e=>e.elim)));have hzl:=Nat.lt_of_lt_of_le (hl5 z hz) hd.size;rcases hz with (hz | hz) | hz
 ·exact .inl (HD.o z hz).1
 ·exact .inr ⟨Nat.le_trans kb.size hz.1,hzl⟩
 ·exact .inr ⟨Nat.le_trans (Nat.le_trans kb.size kc.size) hz.1,hzl⟩
theorem jsS(q p:vB)(n:PA)(h:jak q p < q.size):∀ x t,(p.extract (jak q p) p.size).data.toList=x :: t->(setK (fun _=>.nil) (jaq (q.extract (jak q p) q.size)) (jb8 (q.extract (jak q p+1) q.size) n) x.toNat).isNil=true:=by
 obtain⟨a',b',ha,hb,ha',hb',hne⟩:=jcC q.data.toList p.data.toList
 have hka:(q.extract (jak q p) q.size).data.toList=a':=by rw[jdv,ha'];rfl
 have hkb:(p.extract (jak q p) p.size).data.toList=b':=by rw[jdv,hb'];rfl
 have h0:(q.extract (jak q p) q.size).size≠0:=by rw[jaR];omega
 intro y t hy
 obtain⟨x,s,hx⟩:=jcc h0
 unfold setK;rw[(jbw hx).1,if_neg (jc1 (Ne.symm (hne x s y t (by rw[<-hka,hx]) (by rw[<-hkb,hy]))))];rfl
theorem jsQ(W:World)(D:Nat->Prop)(q:vB)(n:PA)(T:TypeId)(x:Value)(Dn:Nat->Prop)(b:Nat)(hB:Blk W b (.cells #[.string q,.iface T x] 286))(hv:PaAt n (.iface T x) Dn W)(hbn:¬ Dn b)(hD:∀ x,Dn x->D x/\x < W.heap.size)(p u:vB)(hq:jat q=true)(hp:jat p=true)(hqs:q.size<=900000)(hps:p.size<=900000)(hd:Dp n (900000 - q.size))(hnil:n.isNil=false)(hf:jak q p≠q.size) :
  vQ 314 #[.pointer (some ⟨b,0,none⟩),.string p,.string u] W (PaTo D W (jb8 (p.extract 0 (jak q p)) (addK (.br ⟨#[]⟩ (setK (fun _=>.nil) (jaq (q.extract (jak q p) q.size)) (jb8 (q.extract (jak q p+1) q.size) n))) (p.extract (jak q p) p.size) u))):=by
 have q0:=hB.cell (i:=0) (v:=.string q) vF;have q1:=hB.cell (i:=1) (v:=.iface T x) vF;have Q0:=Hd q0;have Q1:=Hd q1;have HB:=Hd hB;have HV:=Hd hv;have HD:Hid (∀ z,Dn z->D z/\z < W.heap.size):=hD
 obtain⟨c1,c2⟩:=jeN q p
 have hcom:=fun w=>jfa w q p vO vO;have hfree:=jsS q p n (show jak q p < q.size by omega)
 obtain⟨m,hm⟩:=vE (jak q p)
 rw[<-hm]at c1 c2 hcom hf hfree ⊢;have HC:=Hd hcom;have hbl:=hB.lt;have HNB:=Hd (show ¬ W.heap.size<=b from by omega);have hlt:m < q.size:=by omega
 have h16:jaq (q.extract m q.size) < 16:=jdx (jbg hq _ _) (by rw[jaR];omega);have hhd:=jvq hlt;have HHD:=Hd (And.intro h16 hhd);have HVS:=Hd (And.intro (jbg hp m p.size) (show (p.extract m p.size).size<=900000 by rw[jaR];omega));have HJ0:=Hd (And.intro hnil (And.intro (show (q.extract (m+1) q.size).size<=900000 by rw[jaR];omega) hd));have hdJ:Dp (jb8 (q.extract (m+1) q.size) n) (900000 - m - 1):=jfA (jb6 _ _ _ hd (by rw[jaR];omega)) (by rw[jaR];omega);have hdj:Dp (addK (.br ⟨#[]⟩ (setK (fun _=>.nil) (jaq (q.extract m q.size)) (jb8 (q.extract (m+1) q.size) n))) (p.extract m p.size) u) (900000 - m):=jhA (jhC (jg7 ⟨#[]⟩ _) vO hdJ _) (by rw[jaR];omega) _;have hnj:(addK (.br ⟨#[]⟩ (setK (fun _=>.nil) (jaq (q.extract m q.size)) (jb8 (q.extract (m+1) q.size) n))) (p.extract m p.size) u).isNil=false:=by rw[jcH];split <;> rfl
 have HDJ:=Hd (And.intro hdj hnj);have HFR:=Hd hfree;have hsz3:(p.extract 0 m).size<=900000:=by rw[ByteArray.size_extract];omega
 have HS3:=Hd hsz3;have c1':(m:Int)<=(q.size:Int):=by omega
 have c2':(m:Int)<=(p.size:Int):=by omega
 have c3':(m:Int) < (q.size:Int):=by omega
 have c4':(m:Int)+1<=(q.size:Int):=by omega
 have c5':((q[m]'hlt).toNat:Int) < 16:=by rw[<-hhd];omega
 have hne:((m:Int) ==(q.size:Int))=false:=by simp;omega
 clear hB hv hbn hD hq hp hd hf hcom hbl hfree h16 hhd hdJ hdj hnj hnil hm hsz3;go_enter Tryz.func314,Tryz.ntmps314;go_wp2_with fail
 refine (HC.o _).mono ?_;rintro e w1 ⟨rfl,k,rfl⟩;go_wp2_with fail
 obtain⟨bb,hbb⟩:=vE W.heap.size
 obtain⟨W2,hW2⟩:=vE ((W.drewN k).alloc (.cells #[.string ⟨#[]⟩,.nilIface,.nilIface,.nilIface,.nilIface,.nilIface,.nilIface,.nilIface,.nilIface,.nilIface,.nilIface,.nilIface,.nilIface,.nilIface,.nilIface,.nilIface,.nilIface] 290))
 have hE2:Ext W W2:=by rw[hW2];exact ((ExtR W).drewN k).alloc _
 have hB2:BrAt ⟨#[]⟩ (fun _=>.nil) bb (fun _=>.nilIface) (fun _ _=>False) (fun x=>x=bb) W2:=by rw[hW2,hbb];exact juj (Blk.new (W.drewN k) _)
 have hb0:W.heap.size<=bb:=by rw[hbb];exact Nat.le_refl _
 have HE2:=Hd hE2;have HB2:=Hd hB2;have HB0:=Hd hb0;rw[<-hW2, <-hbb];clear hbb hW2 hE2 hB2 hb0;refine jaD [0,1,2,3,4,5,6,7,8,9,10,11,12,13,14,15,16,17,19,20,18,21,22] [18,22] Ext (jae (fun z=>W.heap.size<=z)) ExtR ExtT (fun x y z h k=>jae.trans h k) (fun x y h=>h.mono (fun _ _ h=>h.elim)) vY vY vY ?_;iterate 2 refine vD ?_
 refine qDV _ ((.pointer (some ⟨b,0,none⟩))) rfl (fun w1 _=>by kernel_rfl) ?_;refine vS ?_
 refine vD ?_
 refine qDL ⟨b,0,none⟩ _ rfl (fun w1 h1=>jaz (fun w=>by kernel_rfl) (jaw (jaa Q0.o HE2.o) (((jae.refl (fun z=>W.heap.size<=z) W2).drew).trans h1) (by exact HNB.o))) ?_;refine vS ?_;iterate 3 refine vD ?_
 refine qDV _ ((.pointer (some ⟨b,0,none⟩))) rfl (fun w1 _=>by kernel_rfl) ?_;refine vS ?_
 refine vD ?_
 refine qDL ⟨b,0,none⟩ _ rfl (fun w1 h1=>jaz (fun w=>by kernel_rfl) (jaw (jaa Q0.o HE2.o) (((jae.refl (fun z=>W.heap.size<=z) W2).drew).trans h1) (by exact HNB.o))) ?_;refine vS ?_;iterate 4 refine vD ?_
 refine qDV _ ((.pointer (some ⟨b,0,none⟩))) rfl (fun w1 _=>by kernel_rfl) ?_;refine vS ?_
 refine vD ?_
 refine qDL ⟨b,1,none⟩ _ rfl (fun w1 h1=>jaz (fun w=>by kernel_rfl) (jaw (jaa Q1.o HE2.o) (((jae.refl (fun z=>W.heap.size<=z) W2).drew).trans h1) (by exact HNB.o))) ?_;refine vS ?_;refine qDV _ ((.pointer (some ⟨bb,0,none⟩))) rfl (fun w1 _=>by kernel_rfl) ?_;refine vS ?_
 refine vD ?_
 refine qDH _ rfl (fun wb hb K hK=>?_);have kb:Ext W2 wb:=(jaj _).trans hb;have kw:Ext W wb:=HE2.o.trans kb;refine jbv (jay (vX 310) vY) ((pj_c wb Dn (q.extract (m+1) q.size) n (.iface T x) ⟨HV.o.keeps kw _ _ _ (fun _ _ e=>e),fun z hz=>Nat.lt_of_lt_of_le (HD.o z hz).2 kw.size⟩ HJ0.o.1 (by have:=HJ0.o.2.1;omega) (jb6 _ _ _ HJ0.o.2.2 vO)).mono ?_);rintro e w3 ⟨v3,rfl,hP3,hE3⟩
 refine⟨v3,rfl,hK _ _ (hE3.mono (fun _ _ e=>e.elim)) ?_⟩
 have HS:=Hd (And.intro kb (And.intro hP3 hE3));clear hK K hb kb hP3 hE3 kw;refine vS ?_
 refine vD ?_
 refine qDH _ rfl (fun wc hc K hK=>?_)
 obtain⟨kb,hP3,hE3⟩:=HS.o
 have hPc:=hP3.keeps hc _ _ _ (fun _ _ e=>e);have kc:Ext W2 wc:=(kb.trans hE3).trans hc
 obtain⟨T3,x3,rfl⟩:=hPc.form (jdn HJ0.o.1)
 have hEb:∀ z,Grow Dn wb w3 z->¬ z=bb/\z < wc.heap.size:=fun z hz=>by
  have h1:=HB2.o.lt bb rfl;have h2:=HB0.o;have h3:=kb.size;have h4:=hE3.size;have h5:=hc.size;have h6:=HE2.o.size;rcases hz with hz | hz
  ·have:=(HD.o z hz).2;omega
  ·have:=hz.1;have:=hz.2;omega
 have hg:=(HB2.o.keeps kc (fun _ _ e=>e)).give HHD.o.1 hPc hEb
 obtain⟨old,q7⟩:∃ v,wc.cell? ⟨bb,1+jaq (q.extract m q.size),none⟩=some v:=⟨_,(HB2.o.keeps kc (fun _ _ e=>e)).blk.cellL (List.getElem?_eq_getElem (by rw[jgo];have:=HHD.o.1;omega))⟩
 have f7:wc.frozen? ⟨bb,1+jaq (q.extract m q.size),none⟩=false:=(HB2.o.keeps kc (fun _ _ e=>e)).blk.frozen
 obtain⟨WW,hWW⟩:=vE (wc.setCell ⟨bb,1+jaq (q.extract m q.size),none⟩ (.iface T3 x3))
 rw[<-hWW]at hg;have hK1:jae (fun z=>z=bb) wc WW:=by rw[hWW];exact jae.oneSet wc ⟨bb,1+jaq (q.extract m q.size),none⟩ (.iface T3 x3)
 have HG:=Hd (And.intro hg (And.intro hK1 (And.intro kc (And.intro hEb (show ∀ z,Grow Dn wb w3 z->D z\/W.heap.size<=z from fun z hz=>hz.elim (fun e=>.inl (HD.o z e).1) (fun e=>.inr (Nat.le_trans (Nat.le_trans HE2.o.size kb.size) e.1)))))));rw[HHD.o.2]at q7 f7 hWW;clear kb hP3 hE3 hPc kc hEb hg hc;go_simp;rw[<-hWW];refine hK _ _ (hK1.mono (fun z _ e=>by have e:z=bb:=e;rw[e];exact HB0.o)) ?_;clear hK K q7 f7 hWW hK1;refine qDE (fun wd hd=>?_)
 obtain⟨hg,hK1,kc,hEb,hEw⟩:=HG.o
 have hgd:=hg.keeps hd (fun _ _ e=>e);have HX:=Hd (And.intro hgd (show Ext W wd from((HE2.o.trans kc).trans' hK1 (fun z hz e=>by have e:z=bb:=e;have:=HB0.o;omega)).trans hd));have HY:Hid (∀ z,(z=bb\/Grow Dn wb w3 z)->D z\/W.heap.size<=z):=(fun z hz=>hz.elim (fun e=>.inr (by rw[e];exact HB0.o)) (hEw z));clear hg hK1 kc hEb hEw hgd hd;go_wp2_with fail
 refine (jjk wd _ ⟨#[]⟩ _ bb HX.o.1.pa (p.extract m p.size) u HVS.o.1 HVS.o.2 HFR.o).mono ?_;rintro e w4 ⟨rfl,hP4,hk4⟩;have hO4:=AddP.br hP4 hk4 HX.o.1.lt;have hk4':jae D W w4:=(HX.o.2.mono (fun _ _ e=>e.elim)).trans' hk4 (fun z hz e=>by
  rcases HY.o z e with h | h
  ·exact h
  ·omega)
 have HO4:=Hd (And.intro hO4 hk4');clear hP4 hk4 hO4 hk4';unfold brV;go_wp2_with fail
 refine (pj_c w4 _ (p.extract 0 m) _ (brV bb) HO4.o.1 HDJ.o.2 (by have:=HS3.o;omega) (jb6 _ _ _ HDJ.o.1 vO)).mono ?_;rintro e w5 ⟨v5,rfl,hP5,hE5⟩;have HZ:=Hd (And.intro hP5 hE5);clear hP5 hE5;go_wp2_with fail
 go_ret
 obtain⟨hP5,hE5⟩:=HZ.o
 refine PaTo.mk1 (hP5.mono (fun z hz=>?_)) (HO4.o.2.trans (hE5.mono (fun _ _ e=>e.elim)));have hzl:=jer HO4.o.1.lt hE5 z hz;rcases hz with (hz | hz) | hz
 ·rcases HY.o z hz with h | h
  ·exact .inl h
  ·exact .inr ⟨h,hzl⟩
 ·exact .inr ⟨Nat.le_trans HX.o.2.size hz.1,hzl⟩
 ·exact .inr ⟨Nat.le_trans HO4.o.2.size hz.1,hzl⟩
end
def VaP:PA->Prop
 | .nil=>True
 | .no=>True
 | .leaf q _=>jat q=true
 | .ext q n=>jat q=true/\VaP n
 | .br _ ks=>∀ i,VaP (ks i)
theorem jpM:∀ (P:PA),CanP P->VaP P
 | .nil,h=>h.elim
 | .no,h=>h.elim
 | .leaf q v,h=>h.1
 | .ext q n,h=>⟨h.2.1,jpM n h.2.2.2⟩
 | .br v ks,h=>fun i=>by
  cases hn:(ks i).isNil with
  | true=>rw[jbo hn];trivial
  | false=>exact jpM (ks i) (h.2.1 i hn)
theorem jmy:∀ (P:PA),VaP P->PutC P
 | .nil,_=>fun W T x D p u h _ _ _=>by cases h.at'
 | .no,_=>fun W T x D p u h _ _ _=>by
  have e:Value.iface T x=noV:=h.at';unfold noV at e;injection e with e1 e2;subst e1 e2;exact jq4 W D p u
 | .leaf q v,hv=>fun W T x D p u h hp hn hd=>by
  obtain⟨b,e,h1,h2⟩:=h.at'
  unfold jiw at e;injection e with e1 e2;subst e1 e2
  by_cases hpq:p=q
  ·subst hpq
   show Calls _ _ _ W (PaTo D W (putP (.leaf p v) p u));unfold putP;rw[if_pos rfl];exact jqB W D p v u b h2
  ·exact joK W D q v p u b h2 hpq hv hn hd hp
 | .ext q n,hv=>fun W T x D p u h hp hn hd=>by
  obtain⟨b,T',x',Dn,e,h1,h2,h3,h4,h5⟩:=h.at'
  unfold extV at e;injection e with e1 e2;subst e1 e2;have hnil:n.isNil=false:=by
   cases n with
   | nil=>cases h3
   | _=>rfl
  have hDn:∀ z,Dn z->D z/\z < W.heap.size:=fun z hz=>⟨h5 z hz,h.lt z (h5 z hz)⟩
  by_cases hf:jak q p=q.size
  ·have:=jvf W D q n T' x' Dn b h2 h3 h4 hDn p u hv.1 hn hd.1 hp (jb6 _ _ _ hd.2 vO) (jmy n hv.2) hnil hf
   show Calls _ _ _ W (PaTo D W (putP (.ext q n) p u));unfold putP;rw[if_pos hf,hf];exact this
  ·have:=jsQ W D q n T' x' Dn b h2 h3 h4 hDn p u hv.1 hn hd.1 hp hd.2 hnil hf
   show Calls _ _ _ W (PaTo D W (putP (.ext q n) p u));unfold putP;rw[if_neg hf];exact this
 | .br v ks,hv=>fun W T x D p u h hp hn hd=>by
  obtain⟨b,vk,Dk,e,_⟩:=h.at'
  have e0:=e;unfold brV at e;injection e with e1 e2;subst e1 e2;show Calls _ _ _ W (PaTo D W (putP (.br v ks) p u));unfold putP
  by_cases h0:p.size=0
  ·rw[if_pos h0,jbh h0]
   exact (jmX W D v u ks b h).mono fun e w' h=>h.2
  ·rw[if_neg h0]
   cases hk:(ks (jaq p)).isNil with
   | true =>
    rw[jbo hk];exact (jmW W D v u ks b h p h0 hn hp hk).mono fun e w' h=>h.2
   | false =>
    have hdk:=hd (jaq p) hk;exact (jsu W D v u ks b h p h0 hn hp hk (jb6 _ _ _ hdk.2 vO) (jmy (ks (jaq p)) (hv _))).mono fun e w' h=>h.2
end Go.Proofs.YtcpnjmcipainpaaGreatDoor
