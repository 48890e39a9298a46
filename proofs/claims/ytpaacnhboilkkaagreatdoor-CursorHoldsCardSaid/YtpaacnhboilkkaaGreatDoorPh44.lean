/- Parts of the proof, one behind the other: TrD, TrE, MixZ, TrF, TrG, TrH, TrI, TrJ. Each is under no condition but those that it states. -/
import Derived.Test.YtpaacnhboilkkaaGreatDoorPh42
import Derived.Test.YtpaacnhboilkkaaGreatDoorPh43
import Derived.Test.YtpaacnhboilkkaaGreatDoorPh41
import Derived.Test.YtpaacnhboilkkaaGreatDoorPh22
namespace Go.Proofs.YtpaacnhboilkkaaGreatDoor
set_option linter.unusedSimpArgs false
set_option linter.unusedVariables false
set_option maxRecDepth 100000
set_option maxHeartbeats 16000000
section
open Go Go.RowKit
def jcq(P:PA)(d:Chg):PA:=if d.gone then jbT P (jbc d.key)else putP P (jbc d.key) d.value
def jkx(q:List UInt8)(o:Option ByteArray)(c:Chg):Option ByteArray:=if q=(jbc c.key).data.toList then c.o else o
theorem jri{P:PA}(hP:P=.no∨CanP P){c:Chg}(hc:c.bad=false):(jcq P c=.no∨CanP (jcq P c))∧∀ q,getL (jcq P c) q=jkx q (getL P q) c:=by
 have hv:=jed c.key;unfold jcq jkx Chg.o;cases hg:c.gone with
 | true =>
  rw[if_pos rfl,if_pos rfl];rcases hP with rfl | hP
  ·refine⟨.inl rfl,fun q=>?_⟩
   show none=if q=_ then none else none
   split <;> rfl
  ·exact jlw P hP _ hv
 | false =>
  rw[if_neg ff,if_neg ff];have hu:c.value.size≠0:=by
   unfold Chg.bad at hc;rw[hg]at hc;simp only[Bool.false_and,Bool.or_false,Bool.not_false,Bool.true_and,Bool.or_eq_false_iff,Bool.not_eq_false']at hc;have h2:=hc.2;unfold jdt at h2
   have:=of_decide_eq_true h2;omega
  have hP':CanP P∨P=.no∨P=.nil:=by
   rcases hP with h | h
   ·exact .inr (.inl h)
   ·exact .inl h
  exact⟨.inr (jls P hP' _ _ hv hu),jlF P hP' _ _ hu⟩
theorem jpR:∀ (cs:List Chg) (P:PA),(P=.no∨CanP P)→cs.any Chg.bad=false→(cs.foldl jcq P=.no∨CanP (cs.foldl jcq P))∧∀ q,getL (cs.foldl jcq P) q=cs.foldl (jkx q) (getL P q)
 | [],P,hP,_=>⟨hP,fun _=>rfl⟩
 | c :: cs,P,hP,hb=>by
  rw[List.any_cons,Bool.or_eq_false_iff]at hb
  obtain⟨h1,h2⟩:=jri hP hb.1
  obtain⟨k1,k2⟩:=jpR cs _ h1 hb.2
  refine⟨k1,fun q=>?_⟩
  rw[List.foldl_cons,k2,h2,List.foldl_cons]
theorem jqP{a b:ByteArray}(h:jbc a=jbc b):a=b:=by rw[←jeb a,h,jeb]
theorem jn6(k:ByteArray):jkx (jbc k).data.toList=jkw k.data.toList:=by
 funext o c
 unfold jkx jkw Chg.o
 by_cases e:k.data.toList=c.key.data.toList
 ·rw[if_pos e,if_pos (by rw[jcK e])]
 ·rw[if_neg e,if_neg (fun h=>e (by rw[jqP (jcK h)]))]
theorem jiw{q:List UInt8}(h:∀ k,q≠(jbc k).data.toList)(o:Option ByteArray):∀ cs:List Chg,cs.foldl (jkx q) o=o
 | []=>rfl
 | c :: cs=>by
  have e:jkx q o c=o:=by unfold jkx;rw[if_neg (h c.key)]
  rw[List.foldl_cons,e,jiw h o cs]
theorem jjD(k:ByteArray):∀ l:List Pair,valL l k=look l k.data.toList
 | []=>rfl
 | q :: r=>by
  rw[jd9];show (if q.1=k then some q.2 else valL r k)=_
  by_cases e:q.1=k
  ·rw[if_pos e,if_pos (by rw[←e])]
  ·rw[if_neg e,if_neg (fun h=>e (jcK h.symm)),jjD k r]
theorem jm4{l:List Pair}(h:jaQ 12 l):ja2 13 l=.no∨CanP (ja2 13 l):=by
 by_cases h0:l.length=0
 ·exact .inl (jbV _ h0)
 ·exact .inr (jm3 12 l h (fun e=>h0 (by rw[e];rfl))).1
theorem jsm{l m:List Pair}(hl:jaS l=0)(hm:jaS m=0){cs:List Chg}(h:jjL l m cs):cs.foldl jcq (ja2 13 (jaP l))=ja2 13 (jaP m):=by
 have rl:=jbR (jaM hl);have rm:=jbR (jaM hm)
 obtain⟨h1,h2⟩:=jpR cs _ (jm4 rl) h.fine
 refine jqN rm h1 fun p hp=>?_;rw[h2,jjs 12 _ rl p hp]
 by_cases hk:∃ k,p=jbc k
 ·obtain⟨k,rfl⟩:=hk
  rw[jn6,jnq,jnq,jjD,jjD];exact h.looks k.data.toList
 ·have hn:∀ k,p.data.toList≠(jbc k).data.toList:=fun k e=>hk ⟨k,jcK e⟩
  have hv:∀ r:List Pair,valL (jaP r) p=none:=fun r=>jgk fun q hq e=>by
   obtain⟨x,_,rfl⟩:=List.mem_map.1 hq
   exact hk ⟨x.1,e.symm⟩
  rw[jiw hn,hv,hv]
def Dp:PA→Nat→Prop
 | .nil,_=>True
 | .no,_=>True
 | .leaf q _,n=>q.size≤n
 | .ext q m,n=>q.size≤n∧Dp m (n - q.size)
 | .br _ ks,n=>∀ i,(ks i).isNil=false→1≤n∧Dp (ks i) (n - 1)
theorem jcl:∀ (P:PA) (n m:Nat),Dp P n→n≤m→Dp P m
 | .nil,_,_,_,_=>trivial
 | .no,_,_,_,_=>trivial
 | .leaf q _,n,m,h,k=>Nat.le_trans (show q.size≤n from h) k
 | .ext q x,n,m,h,k=>⟨Nat.le_trans h.1 k,jcl x _ _ h.2 (by omega)⟩
 | .br _ ks,n,m,h,k=>fun i hi=>⟨Nat.le_trans (h i hi).1 k,jcl (ks i) _ _ (h i hi).2 (by omega)⟩
theorem jfJ{a:ByteArray}{P:PA}{n:Nat}(h:Dp P (n - a.size))(ha:a.size≤n):Dp (jcm a P) n:=by
 unfold jcm
 by_cases h0:a.size=0
 ·rw[if_pos h0];exact jcl P _ _ h (by omega)
 rw[if_neg h0];cases P with
 | nil=>trivial
 | no=>trivial
 | leaf q v =>
  have h:q.size≤n - a.size:=h;show (a++q).size≤n;rw[jdc];omega
 | ext q m =>
  have h1:=h.1
  refine⟨by rw[jdc];omega,?_⟩
  rw[jdc];exact jcl m _ _ h.2 (by omega)
 | br v ks=>exact⟨ha,h⟩
theorem jhw{v:ByteArray}{ks:Nat→PA}{n:Nat}(h:Dp (.br v ks) n){i:Nat}{P:PA}(h1:1≤n)(hP:Dp P (n - 1))(u:ByteArray):Dp (.br u (setK ks i P)) n:=by
 intro j hj
 by_cases e:j=i
 ·rw[e,jco];exact⟨h1,hP⟩
 ·rw[jeC _ _ e]at hj ⊢;exact h j hj
theorem jhu{v:ByteArray}{ks:Nat→PA}{n:Nat}(h:Dp (.br v ks) n){p:ByteArray}(hp:p.size≤n)(u:ByteArray):Dp (addK (.br v ks) p u) n:=by
 rw[jcS]
 by_cases h0:p.size=0
 ·rw[if_pos h0];exact h
 ·rw[if_neg h0]
  refine jhw h (by omega) ?_ v;show (jbx p).size≤n - 1;unfold jbx;rw[ja0];omega
theorem jg4(v:ByteArray)(n:Nat):Dp (.br v fun _=>.nil) n:=fun i hi=>by cases hi
theorem jeM(a b:ByteArray):jap a b≤a.size∧jap a b≤b.size:=by
 have:=jbj a.data.toList b.data.toList
 unfold jap;rw[←jaR, ←jaR];exact this.2
theorem jmw:∀ (P:PA) (n:Nat) (p u:ByteArray),Dp P n→p.size≤n→Dp (putP P p u) n
 | .nil,_,p,u,_,hp=>hp
 | .no,_,p,u,_,hp=>hp
 | .leaf q v,n,p,u,h,hp=>by
  have h:q.size≤n:=h
  obtain⟨c1,c2⟩:=jeM q p
  unfold putP
  by_cases e:p=q
  ·rw[if_pos e];exact hp
  rw[if_neg e];have hz:(p.extract 0 (jap q p)).size=jap q p:=by rw[ByteArray.size_extract];omega
  refine jfJ ?_ (by omega);rw[hz];have h9:=jhu (jg4 ⟨#[]⟩ (n - jap q p)) (p:=q.extract (jap q p) q.size) (by rw[ja0];omega) v;rw[jcS]at h9 ⊢
  by_cases h0:(q.extract (jap q p) q.size).size=0
  ·rw[if_pos h0]at h9 ⊢
   exact jhu h9 (by rw[ja0];omega) u
  ·rw[if_neg h0]at h9 ⊢
   exact jhu h9 (by rw[ja0];omega) u
 | .ext q x,n,p,u,h,hp=>by
  obtain⟨c1,c2⟩:=jeM q p
  unfold putP
  by_cases e:jap q p=q.size
  ·rw[if_pos e]
   refine jfJ (jmw x _ _ u h.2 ?_) h.1;rw[ja0];omega
  ·rw[if_neg e]
   have hz:(p.extract 0 (jap q p)).size=jap q p:=by rw[ByteArray.size_extract];omega
   refine jfJ ?_ (by omega);rw[hz];have hq:=h.1;refine jhu (jhw (jg4 ⟨#[]⟩ _) (by omega) (jfJ ?_ ?_) _) (by rw[ja0];omega) u
   ·rw[ja0]
    exact jcl x _ _ h.2 (by omega)
   ·rw[ja0];omega
 | .br v ks,n,p,u,h,hp=>by
  unfold putP
  by_cases h0:p.size=0
  ·rw[if_pos h0];exact h
  ·rw[if_neg h0]
   refine jhw h (by omega) (jmw (ks (jao p)) (n - 1) _ u ?_ ?_) v
   ·cases hn:(ks (jao p)).isNil with
    | true=>rw[jbA hn];trivial
    | false=>exact (h _ hn).2
   ·unfold jbx;rw[ja0];omega
theorem jmv{v:ByteArray}{ks:Nat→PA}{n:Nat}(h:Dp (.br v ks) n):Dp (jdu v ks) n:=by
 have hm:∀ i∈idxK ks,(ks i).isNil=false:=fun i hi=>by
  have:=(List.mem_filter.1 hi).2
  simpa using this
 unfold jdu;cases e:idxK ks with
 | nil =>
  show Dp (if v.size=0 then PA.no else .leaf ⟨#[]⟩ v) n
  by_cases h0:v.size=0
  ·rw[if_pos h0];trivial
  ·rw[if_neg h0];exact Nat.zero_le n
 | cons i r =>
  cases r with
  | nil =>
   show Dp (if v.size=0 then jcm ⟨#[UInt8.ofNat i]⟩ (ks i)else .br v ks) n
   by_cases h0:v.size=0
   ·rw[if_pos h0]
    obtain⟨h1,h2⟩:=h i (hm i (by rw[e];exact List.mem_cons_self))
    exact jfJ h2 h1
   ·rw[if_neg h0];exact h
  | cons j r=>exact h
theorem jhv:∀ (P:PA) (n:Nat) (p:ByteArray),Dp P n→Dp (jbT P p) n
 | .nil,_,_,_=>trivial
 | .no,_,_,_=>trivial
 | .leaf q v,n,p,h=>by
  unfold jbT
  by_cases e:p=q
  ·rw[if_pos e];trivial
  ·rw[if_neg e];exact h
 | .ext q x,n,p,h=>by
  unfold jbT;cases preB q p with
  | false=>rw[if_neg ff];exact h
  | true=>rw[if_pos rfl];exact jfJ (jhv x _ _ h.2) h.1
 | .br v ks,n,p,h=>by
  unfold jbT
  by_cases h0:p.size=0
  ·rw[if_pos h0];exact jmv h
  ·rw[if_neg h0]
   cases hn:(ks (jao p)).isNil with
   | true=>rw[if_pos rfl];exact h
   | false =>
    rw[if_neg ff]
    obtain⟨h1,h2⟩:=h _ hn
    refine jmv (jhw h h1 ?_ v)
    have:=jhv (ks (jao p)) (n - 1) (jbx p) h2
    unfold unNo;cases (jbT (ks (jao p)) (jbx p)).isNo with
    | true=>rw[if_pos rfl];trivial
    | false=>rw[if_neg ff];exact this
theorem jqK:∀ (f:Nat) (l:List Pair) (k:Nat),jaQ f l→jaQ k l→Dp (ja2 (f+1) l) k:=by
 intro f;have leaf:∀ (f:Nat) (l:List Pair) (k:Nat),jaQ k l→l.length=1→Dp (ja2 (f+1) l) k:=by
  intro f l k h h1;rw[jb5 _ h1];exact (h.size _ (jdU (l:=l) (by omega))).1
 induction f with
 | zero =>
  intro l k h hk;have hl:=jcf h
  by_cases h0:l.length=0
  ·rw[jbV _ h0];trivial
  ·exact leaf 0 l k hk (by omega)
 | succ f ih =>
  intro l k h hkk
  by_cases h0:l.length=0
  ·rw[jbV _ h0];trivial
  by_cases h1:l.length=1
  ·exact leaf _ l k hkk h1
  have h2:2≤l.length:=by omega
  by_cases hk:0 < comK l
  ·have hm:=jdU (l:=l) (by omega)
   have hh:=jdO h h2;have hcom:=jbY h h2;have hle:=(hcom _ hm).2;have hsz:=(hkk.size _ hm).1;rw[jdB _ h2 hk]
   refine⟨by rw[hh];omega,?_⟩
   rw[hh];exact ih _ _ (jfO h h2 hk).1 (jcF (comK l) hkk (fun p hp q hq=>(hcom p hp).1.trans (hcom q hq).1.symm) (fun p hp=>(hcom p hp).2))
  ·rw[jey _ h2 hk]
   intro i hi;have hi:(if (cutL i l).length=0 then PA.nil else ja2 (f+1) (jam 1 (cutL i l))).isNil=false:=hi;show 1≤k∧Dp (if (cutL i l).length=0 then PA.nil else ja2 (f+1) (jam 1 (cutL i l))) (k - 1)
   by_cases hc:(cutL i l).length=0
   ·rw[if_pos hc]at hi;cases hi
   ·rw[if_neg hc]
    refine⟨?_,ih _ _ (jga h hc).1 (jei i hkk)⟩
    cases e:cutL i l with
    | nil=>rw[e]at hc;exact (hc rfl).elim
    | cons p r =>
     obtain⟨hp,a,t,h1,h2⟩:=jbH (show p∈cutL i l by rw[e];exact List.mem_cons_self)
     have:=(hkk.size p hp).1
     have h3:p.1.size=(a :: t).length:=by rw[←jaR];exact congrArg List.length h1
     rw[List.length_cons]at h3;omega
end
section
open Go Go.RowKit
attribute [local go_sem] Oper.semAt_some
def noV:Value:=.iface 276 (.agg #[])
def jh9(b:Nat):Value:=.iface 265 (.pointer (some ⟨b,0,none⟩))
def extV(b:Nat):Value:=.iface 268 (.pointer (some ⟨b,0,none⟩))
def brV(b:Nat):Value:=.iface 271 (.pointer (some ⟨b,0,none⟩))
def brC(u:ByteArray)(vk:Nat→Value):List Value:=.string u ::(List.range 16).map vk
def PaAt:PA→Value→(Nat→Prop)→World→Prop
 | .nil,v,_,_=>v=.nilIface
 | .no,v,_,_=>v=noV
 | .leaf q u,v,D,W=>∃ b,v=jh9 b∧D b∧Blk W b (.cells #[.string q,.string u] 267)
 | .ext q n,v,D,W=>∃ b T x Dn,v=extV b∧D b∧Blk W b (.cells #[.string q,.iface T x] 270)∧PaAt n (.iface T x) Dn W∧¬ Dn b∧∀ x,Dn x→D x
 | .br u ks,v,D,W=>∃ (b:Nat) (vk:Nat→Value) (Dk:Nat→Nat→Prop),v=brV b∧D b∧Blk W b (.cells (brC u vk).toArray 274) ∧
   (∀ i,i < 16→PaAt (ks i) (vk i) (Dk i) W∧¬ Dk i b∧∀ x,Dk i x→D x)∧∀ i j,i < 16→j < 16→i≠j→∀ x,Dk i x→¬ Dk j x
theorem PaAt.keeps{F:BSet}{W W':World}(k:jac F W W'):∀ (P:PA) (v:Value) (D:Nat→Prop),PaAt P v D W→(∀ x,D x→¬ F x)→PaAt P v D W'
 | .nil,_,_,h,_=>h
 | .no,_,_,h,_=>h
 | .leaf _ _,_,_,⟨b,h1,h2,h3⟩,hF=>⟨b,h1,h2,h3.keeps k (hF b h2)⟩
 | .ext _ n,_,_,⟨b,T,x,Dn,h1,h2,h3,h4,h5,h6⟩,hF=>⟨b,T,x,Dn,h1,h2,h3.keeps k (hF b h2),PaAt.keeps k n (.iface T x) Dn h4 (fun x hx=>hF x (h6 x hx)),h5,h6⟩
 | .br _ ks,_,_,⟨b,vk,Dk,h1,h2,h3,h4,h5⟩,hF=>⟨b,vk,Dk,h1,h2,h3.keeps k (hF b h2),fun i hi=>⟨PaAt.keeps k (ks i) (vk i) (Dk i) (h4 i hi).1 (fun x hx=>hF x ((h4 i hi).2.2 x hx)),(h4 i hi).2⟩,h5⟩
theorem PaAt.mono{D D':Nat→Prop}{W:World}(hD:∀ x,D x→D' x):∀ {P:PA} {v:Value},PaAt P v D W→PaAt P v D' W
 | .nil,_,h=>h
 | .no,_,h=>h
 | .leaf _ _,_,⟨b,h1,h2,h3⟩=>⟨b,h1,hD b h2,h3⟩
 | .ext _ n,_,⟨b,T,x,Dn,h1,h2,h3,h4,h5,h6⟩=>⟨b,T,x,Dn,h1,hD b h2,h3,h4,h5,fun x hx=>hD x (h6 x hx)⟩
 | .br _ ks,_,⟨b,vk,Dk,h1,h2,h3,h4,h5⟩=>⟨b,vk,Dk,h1,hD b h2,h3,fun i hi=>⟨(h4 i hi).1,(h4 i hi).2.1,fun x hx=>hD x ((h4 i hi).2.2 x hx)⟩,h5⟩
theorem PaAt.form{P:PA}{v:Value}{D:Nat→Prop}{W:World}(h:PaAt P v D W)(hn:P.isNil=false):∃ T x,v=.iface T x:=by
 cases P with
 | nil=>cases hn
 | no=>exact⟨_,_,h⟩
 | leaf q u=>obtain⟨b,h,_⟩:=h;exact⟨_,_,h⟩
 | ext q n=>obtain⟨b,T,x,Dn,h,_⟩:=h;exact⟨_,_,h⟩
 | br u ks=>obtain⟨b,vk,Dk,h,_⟩:=h;exact⟨_,_,h⟩
structure PaO(P:PA)(v:Value)(D:Nat→Prop)(W:World):Prop where
 at':PaAt P v D W
 lt:∀ x,D x→x < W.heap.size
theorem PaO.keeps{F:BSet}{W W':World}{P:PA}{v:Value}{D:Nat→Prop}(h:PaO P v D W)(k:jac F W W')(hF:∀ x,D x→¬ F x):PaO P v D W':=
 ⟨h.at'.keeps k P v D hF,fun x hx=>Nat.lt_of_lt_of_le (h.lt x hx) k.size⟩
theorem PaO.ext{W W':World}{P:PA}{v:Value}{D:Nat→Prop}(h:PaO P v D W)(k:Ext W W'):PaO P v D W':=h.keeps k fun _ _ e=>e
def Grow(D:Nat→Prop)(W W':World):Nat→Prop:=fun x=>D x∨(W.heap.size≤x∧x < W'.heap.size)
theorem jew{D:Nat→Prop}{W W':World}{F:BSet}(h:∀ x,D x→x < W.heap.size)(k:jac F W W'):∀ x,Grow D W W' x→x < W'.heap.size
 | x,.inl hx=>Nat.lt_of_lt_of_le (h x hx) k.size
 | x,.inr hx=>hx.2
def PaTo(D:Nat→Prop)(W:World)(P:PA)(e:Ending)(w':World):Prop:=∃ v,e=.returned v∧PaAt P v (Grow D W w') w'∧jac D W w'
theorem PaTo.own{D:Nat→Prop}{W:World}{P:PA}{v:Value}{w':World}(h:PaAt P v (Grow D W w') w')(k:jac D W w')(hl:∀ x,D x→x < W.heap.size):PaO P v (Grow D W w') w':=⟨h,jew hl k⟩
def PaEx(D:Nat→Prop)(W:World)(P:PA)(e:Ending)(w':World):Prop:=∃ v,e=.returned v∧PaAt P v (Grow D W w') w'∧Ext W w'
theorem juP(b:Nat)(w:World):(Instr.typeAssert (jh9 b) 94 265 true).run Tryz.prog w=.ok (.tuple #[.pointer (some ⟨b,0,none⟩),.bool true]) w:=by kernel_rfl
theorem jlM(v:Value)(h:(∃ b,v=extV b)∨(∃ b,v=brV b)∨v=noV)(w:World):(Instr.typeAssert v 94 265 true).run Tryz.prog w=.ok (.tuple #[.pointer none,.bool false]) w:=by
 rcases h with⟨b,rfl⟩ |⟨b,rfl⟩ | rfl <;> kernel_rfl
theorem jwr(b:Nat)(w:World):(Instr.typeAssert (extV b) 94 268 true).run Tryz.prog w=.ok (.tuple #[.pointer (some ⟨b,0,none⟩),.bool true]) w:=by kernel_rfl
theorem jtD(v:Value)(h:(∃ b,v=brV b)∨v=noV)(w:World):(Instr.typeAssert v 94 268 true).run Tryz.prog w=.ok (.tuple #[.pointer none,.bool false]) w:=by
 rcases h with⟨b,rfl⟩ | rfl <;> kernel_rfl
theorem jxy(b:Nat)(w:World):(Instr.typeAssert (brV b) 94 271 true).run Tryz.prog w=.ok (.tuple #[.pointer (some ⟨b,0,none⟩),.bool true]) w:=by kernel_rfl
theorem jxz(w:World):(Instr.typeAssert noV 94 271 true).run Tryz.prog w=.ok (.tuple #[.pointer none,.bool false]) w:=by kernel_rfl
end
section
open Go Go.RowKit
section mixz
variable {P:Program} {l:List Oper} {E D:World→World→Prop}
def anyZ(P:Program)(ops:Array Oper)(z:Nat)(hd:List Nat)(E D:World→World→Prop)(Q:Act→World→Prop):Nat→Array Bool→Act→World→Prop
 | 0,listed,a,w=>listed.getD z true=true∧Region.ready .any ops listed=[]∧Q a w
 | fuel+1,listed,a,w=>∀ w1,(listed.getD z true=false→E w w1)→(listed.getD z true=true→w1=w) →
  (Region.ready .any ops listed=[]→Q a w1) ∧
  ∀ i∈Region.ready .any ops listed,wpOp P ops NoQ i (fun a' w'=>(listed.getD z true=false→i≠z→D w1 w'∧(i ∉ hd→E w1 w'))∧(listed.getD z true=true→w'=w1)∧anyZ P ops z hd E D Q fuel (listed.setIfInBounds i true) a' w') a w1
theorem jo3(hT:∀ x y z,E x y→E y z→E x z){ops:Array Oper}{z:Nat}{hd:List Nat}{Q:Act→World→Prop}:∀ (fuel:Nat) (listed:Array Bool) (a:Act) (w w1:World),listed.getD z true=false→anyZ P ops z hd E D Q fuel listed a w→E w w1→anyZ P ops z hd E D Q fuel listed a w1
 | 0,_,_,_,_,hz,h,_=>by have:=h.1;rw[hz]at this;cases this
 | _+1,_,_,_,_,hz,h,he=>fun w2 h2 h3=>h w2 (fun e=>hT _ _ _ he (h2 e)) (fun e=>absurd e (by rw[hz];decide))
theorem jid(hE:∀ w,E w w){ops:Array Oper}{z:Nat}{hd:List Nat}{Q:Act→World→Prop}{Q':Exit→Act→World→Prop}(hQ:∀ a w,Q a w→Q' .normal a w) :
  ∀ (fuel:Nat) (listed:Array Bool) (a:Act) (w:World),anyZ P ops z hd E D Q fuel listed a w→wpAny P .any ops Q' fuel listed a w
 | 0,_,_,w,h=>⟨h.2.1,hQ _ _ h.2.2⟩
 | fuel+1,_,_,w,h=>let ⟨h1,h2⟩:=h w (fun _=>hE w) (fun _=>rfl)
  ⟨fun h0=>hQ _ _ (h1 h0),fun i hi=>jhe (fun a' w' ⟨_,_,h'⟩=>jid hE hQ fuel _ a' w' h') (h2 i hi)⟩
def jnW(ops:Array Oper)(z i:Nat):Bool:=match ops[z]? with | some o=>o.after.toList.any fun e=>Region.binds .any e && e.on == i | none=>false
theorem jse{ops:Array Oper}{z i:Nat}{listed:Array Bool}(he:jnW ops z i=true)(hi:i∈Region.ready .any ops listed):z ∉ Region.ready .any ops listed:=by
 intro hz;unfold jnW at he
 obtain⟨hzu,oz,hoz,hall⟩:=mem_ready.1 hz
 rw[hoz]at he
 obtain⟨e,hem,h2⟩:=List.any_eq_true.1 he
 rw[Bool.and_eq_true,beq_iff_eq]at h2;have h1:=hall e (by simpa using hem) h2.1;have h0:=(mem_ready.1 hi).1;rw[h2.2]at h1;rcases Nat.lt_or_ge i listed.size with h' | h'
 ·simp[h']at h0 h1;rw[h0]at h1;cases h1
 ·simp[Array.getElem?_eq_none h']at h1
theorem jnF(hE:∀ w,E w w)(hT:∀ x y z,E x y→E y z→E x z)(hD:∀ x y z,D x y→D y z→D x z)(hED:∀ x y,E x y→D x y){ops:Array Oper}{z:Nat}{hd:List Nat}{Q:Act→World→Prop}{i:Nat}{oi:Oper}{v:Value}(hiz:i≠z)(he0:jnW ops z i=true)(hi:ops[i]?=some oi)(hsel:∀ (j:Nat) (o:Oper) cs b,ops[j]?=some o→o.op≠.select cs b) :
  ∀ (fuel:Nat) (listed:Array Bool) (a:Act) (w:World),listed.getD z true=false →
   (∀ j oj,ops[j]?=some oj→j≠i→listed.getD j true=false→(∀ e∈oj.after,Region.binds .any e=true→e.on≠i)→oi.apart ops oj=true) →
   i∈Region.ready .any ops listed→jcy P ops E D w oi v a →
   anyZ P ops z hd E D Q fuel (listed.setIfInBounds i true) (a.put oi.dst v) w→anyZ P ops z hd E D Q (fuel+1) listed a w:=by
 intro fuel;induction fuel with
 | zero =>
  intro listed a w hz _ hr hy H
  have:=H.1
  rw[getD_set_ne true hiz,hz]at this;cases this
 | succ fuel ih =>
  intro listed a w hz hfree hr hy H w1 he1 _;have he:=he1 hz;have hz':(listed.setIfInBounds i true).getD z true=false:=by rw[getD_set_ne true hiz,hz]
  refine⟨fun h=>(by rw[h]at hr;cases hr),fun j hj=>?_⟩
  by_cases hji:j=i
  ·subst hji
   exact hy.wpOp hi (hED _ _ he) hE (fun w' h1=>⟨fun _ _=>⟨hED _ _ h1,fun _=>h1⟩,fun e=>absurd e (by rw[hz];decide),jo3 hT _ _ _ _ _ hz' H (hT _ _ _ he h1)⟩)
  ·have hjz:j≠z:=fun e=>jse he0 hr (e ▸ hj)
   have h1:=(H w1 (fun _=>he) (fun e=>by rw[hz']at e;cases e)).2 j (ready_mono hj hji)
   obtain⟨hjun,oj,hoj,hall⟩:=mem_ready.1 hj
   have hnot:∀ e∈oj.after,Region.binds .any e=true→e.on≠i:=fun e he hb heq=>by
    have h1:=hall e he hb;have h0:=(mem_ready.1 hr).1;rw[heq]at h1;rcases Nat.lt_or_ge i listed.size with h' | h'
    ·simp[h']at h0 h1;rw[h0]at h1;cases h1
    ·simp[Array.getElem?_eq_none h']at h1
   have h2:=je7 (v:=v) (Y:=fun a'=>execOp a'.eval oi=execOp a.eval oi∧Region.wanted oi (yielded ops a'.tmps)=Region.wanted oi (yielded ops a.tmps)) hoj (hfree j oj hoj hji hjun hnot) (fun cs b=>hsel i oi cs b hi) (fun cs b=>hsel j oj cs b hoj)
    (fun a1 a2 h e1 e2=>⟨e1.trans h.1,e2.trans h.2⟩) ⟨rfl,rfl⟩ h1
   have hfree':∀ k ok,ops[k]?=some ok→k≠i→(listed.setIfInBounds j true).getD k true=false →
     (∀ e∈ok.after,Region.binds .any e=true→e.on≠i)→oi.apart ops ok=true:=fun k ok hk hki hun hno=>by
    refine hfree k ok hk hki ?_ hno
    by_cases hjk:j=k
    ·subst hjk;exact hjun
    ·rw[getD_set_ne true hjk]at hun;exact hun
   refine wpOp_mono (fun a' w' h3=>?_) h2
   obtain⟨⟨e1,e2⟩,h4,_,h5⟩:=h3
   have h4:=h4 hz' hjz
   refine⟨fun _ _=>h4,fun e=>absurd e (by rw[hz];decide),?_⟩
   have hyn:jcy P ops E D w' oi v a':=(hy.of_same e1 e2).st hD (hD _ _ _ (hED _ _ he) h4.1);refine ih (listed.setIfInBounds j true) a' w' (by rw[getD_set_ne true hjz,hz]) hfree' (ready_mono hr (Ne.symm hji)) hyn ?_;rw[Array.setIfInBounds_comm _ _ hji];exact h5
def jgo(P:Program)(ops:Array Oper)(o:Oper)(v:Value)(a:Act):Prop:=
 (Region.wanted o (yielded ops a.tmps)=true∧∀ w1,jlY P (fun x y=>y=x) w1 v ((execOp a.eval o).run P w1))∨(Region.wanted o (yielded ops a.tmps)=false∧v=undef)
theorem jgo.wpOp{ops:Array Oper}{i:Nat}{o:Oper}{v:Value}{a:Act}(hi:ops[i]?=some o)(hy:jgo P ops o v a){K:Act→World→Prop}{w1:World}
  (h:K (a.put o.dst v) w1):wpOp P ops NoQ i K a w1:=by
 have hy':jbO P ops (fun x y=>y=x) w1 o v a:=by
  rcases hy with⟨h1,h2⟩ | h1
  ·exact .inl ⟨h1,fun w1 _=>h2 w1⟩
  ·exact .inr h1
 exact hy'.wpOp hi (Eq.refl w1) (fun _=>rfl) (fun w' e=>by have e:w'=w1:=e;rw[e];exact h)
theorem jrE(hE:∀ w,E w w)(hT:∀ x y z,E x y→E y z→E x z)(hED:∀ x y,E x y→D x y){ops:Array Oper}{z:Nat}{hd:List Nat}{Q:Act→World→Prop}{i:Nat}{oi:Oper}{v:Value}(hiz:i≠z)(hi:ops[i]?=some oi)(hsel:∀ (j:Nat) (o:Oper) cs b,ops[j]?=some o→o.op≠.select cs b) :
  ∀ (fuel:Nat) (listed:Array Bool) (a:Act) (w:World),
   (∀ j oj,ops[j]?=some oj→j≠i→listed.getD j true=false→(∀ e∈oj.after,Region.binds .any e=true→e.on≠i)→oi.apart ops oj=true) →
   i∈Region.ready .any ops listed→jgo P ops oi v a →
   anyZ P ops z hd E D Q fuel (listed.setIfInBounds i true) (a.put oi.dst v) w→anyZ P ops z hd E D Q (fuel+1) listed a w:=by
 intro fuel;have same:∀ (fuel:Nat) (listed:Array Bool) (a:Act) (w w1:World),(listed.getD z true=false→E w w1)→(listed.getD z true=true→w1=w) →
   anyZ P ops z hd E D Q fuel (listed.setIfInBounds i true) (a.put oi.dst v) w→anyZ P ops z hd E D Q fuel (listed.setIfInBounds i true) (a.put oi.dst v) w1:=by
  intro fuel listed a w w1 h1 h2 H;cases hz:listed.getD z true with
  | true=>rw[h2 hz];exact H
  | false=>exact jo3 hT _ _ _ _ _ (by rw[getD_set_ne true hiz,hz]) H (h1 hz)
 induction fuel with
 | zero =>
  intro listed a w hfree hr hy H w1 he1 he2;have hz:listed.getD z true=true:=by have:=H.1;rwa [getD_set_ne true hiz]at this
  refine⟨fun h=>(by rw[h]at hr;cases hr),fun j hj=>?_⟩
  by_cases hji:j=i
  ·subst hji
   exact hy.wpOp hi ⟨fun _ _=>⟨hED _ _ (hE w1),fun _=>hE w1⟩,fun _=>rfl,same 0 listed a w w1 he1 he2 H⟩
  ·have:=ready_mono hj hji
   rw[H.2.1]at this;cases this
 | succ fuel ih =>
  intro listed a w hfree hr hy H w1 he1 he2
  refine⟨fun h=>(by rw[h]at hr;cases hr),fun j hj=>?_⟩
  by_cases hji:j=i
  ·subst hji
   exact hy.wpOp hi ⟨fun _ _=>⟨hED _ _ (hE w1),fun _=>hE w1⟩,fun _=>rfl,same _ listed a w w1 he1 he2 H⟩
  ·have hzz:(listed.setIfInBounds i true).getD z true=listed.getD z true:=getD_set_ne true hiz
   have h1:=(H w1 (fun e=>he1 (hzz ▸ e)) (fun e=>he2 (hzz ▸ e))).2 j (ready_mono hj hji)
   obtain⟨hjun,oj,hoj,hall⟩:=mem_ready.1 hj
   have hnot:∀ e∈oj.after,Region.binds .any e=true→e.on≠i:=fun e he hb heq=>by
    have h1:=hall e he hb;have h0:=(mem_ready.1 hr).1;rw[heq]at h1;rcases Nat.lt_or_ge i listed.size with h' | h'
    ·simp[h']at h0 h1;rw[h0]at h1;cases h1
    ·simp[Array.getElem?_eq_none h']at h1
   have h2:=je7 (v:=v) (Y:=fun a'=>execOp a'.eval oi=execOp a.eval oi∧Region.wanted oi (yielded ops a'.tmps)=Region.wanted oi (yielded ops a.tmps)) hoj (hfree j oj hoj hji hjun hnot) (fun cs b=>hsel i oi cs b hi) (fun cs b=>hsel j oj cs b hoj)
    (fun a1 a2 h e1 e2=>⟨e1.trans h.1,e2.trans h.2⟩) ⟨rfl,rfl⟩ h1
   have hfree':∀ k ok,ops[k]?=some ok→k≠i→(listed.setIfInBounds j true).getD k true=false →
     (∀ e∈ok.after,Region.binds .any e=true→e.on≠i)→oi.apart ops ok=true:=fun k ok hk hki hun hno=>by
    refine hfree k ok hk hki ?_ hno
    by_cases hjk:j=k
    ·subst hjk;exact hjun
    ·rw[getD_set_ne true hjk]at hun;exact hun
   refine wpOp_mono (fun a' w' h3=>?_) h2
   obtain⟨⟨e1,e2⟩,h4,h4',h5⟩:=h3
   rw[hzz]at h4 h4'
   refine⟨h4,h4',?_⟩
   have hyn:jgo P ops oi v a':=by unfold jgo at *;rw[e1,e2];exact hy
   refine ih (listed.setIfInBounds j true) a' w' hfree' (ready_mono hr (Ne.symm hji)) hyn ?_;rw[Array.setIfInBounds_comm _ _ hji];exact h5
def MixZ(P:Program)(l:List Oper)(z:Nat)(hd:List Nat)(E D:World→World→Prop)(Q:Act→World→Prop):List Nat→List Nat→Act→World→Prop
 | [],done,a,w=>Region.ready .any l.toArray (jbo l done)=[z]∧(jbo l done).getD z true=false∧(jbo l (z :: done)).getD z true=true∧Region.ready .any l.toArray (jbo l (z :: done))=[]∧∀ w1,E w w1→wpOp P l.toArray NoQ z Q a w1
 | k :: ord,done,a,w=>(jbo l done).getD z true=false∧k≠z ∧
  ((k∈Region.ready .any l.toArray (jbo l done)∧Region.free .any l.toArray (jbo l done) k=true∧∃ o v,l[k]?=some o∧((jnW l.toArray z k=true∧jcy P l.toArray E D w o v a)∨jgo P l.toArray o v a)∧MixZ P l z hd E D Q ord (k :: done) (a.put o.dst v) w) ∨
  (Region.ready .any l.toArray (jbo l done)=[k]∧k∈hd∧∀ w1,E w w1→wpOp P l.toArray NoQ k (fun a' w'=>D w1 w'∧MixZ P l z hd E D Q ord (k :: done) a' w') a w1))
theorem jeo(hE:∀ w,E w w)(hT:∀ x y z,E x y→E y z→E x z)(hD:∀ x y z,D x y→D y z→D x z)(hED:∀ x y,E x y→D x y)(hs:Region.noSelect l.toArray=true){z:Nat}{hd:List Nat}{Q:Act→World→Prop}:∀ (ord:List Nat) (done:List Nat) (a:Act) (w:World),
  MixZ P l z hd E D Q ord done a w→anyZ P l.toArray z hd E D Q (ord.length+1) (jbo l done) a w
 | [],done,a,w,⟨h1,hz,hz2,h2,h3⟩=>fun w1 he _=>by
  refine⟨fun h0=>(by rw[h1]at h0;cases h0),fun i hi=>?_⟩
  rw[h1]at hi;obtain rfl:i=z:=by simpa using hi
  exact wpOp_mono (fun a' w' h=>⟨fun _ e=>absurd rfl e,fun e=>absurd e (by rw[hz];decide),hz2,h2,h⟩) (h3 w1 (he hz))
 | k :: ord,done,a,w,⟨hz,hkz,h⟩=>by
  rcases h with⟨hr,hf,o,v,ho,hy,h⟩ |⟨hr,hkd,h⟩
  ·have ho':l.toArray[k]?=some o:=by simpa using ho
   rcases hy with⟨he,hy⟩ | hy
   ·exact jnF hE hT hD hED hkz he ho' (Region.noSelect_spec hs) (ord.length+1) (jbo l done) a w hz (Region.free_spec ho' hf) hr hy (jeo hE hT hD hED hs ord _ _ _ h)
   ·exact jrE hE hT hED hkz ho' (Region.noSelect_spec hs) (ord.length+1) (jbo l done) a w (Region.free_spec ho' hf) hr hy (jeo hE hT hD hED hs ord _ _ _ h)
  ·intro w1 he _
   refine⟨fun h0=>(by rw[hr]at h0;cases h0),fun i hi=>?_⟩
   rw[hr]at hi;obtain rfl:i=k:=by simpa using hi
   exact wpOp_mono (fun a' w' h2=>⟨fun _ _=>⟨h2.1,fun hn=>absurd hkd hn⟩,fun e=>absurd e (by rw[hz];decide),jeo hE hT hD hED hs ord _ _ _ h2.2⟩) (h w1 (he hz))
theorem jdi(ord:List Nat)(z:Nat)(hd:List Nat)(E D:World→World→Prop)(hE:∀ w,E w w)(hT:∀ x y z,E x y→E y z→E x z)(hD:∀ x y z,D x y→D y z→D x z)(hED:∀ x y,E x y→D x y){id:Nat}{Q:Exit→Act→World→Prop}{a:Act}{w:World}
  (hm:P.follows .mixedOrders=true) (hs:Region.noSelect l.toArray=true) (hl:ord.length+1=l.toArray.size)
  (h:MixZ P l z hd E D (fun a w=>Q .normal a w) ord [] a w.drew):(Code.region id l.toArray true).wp P Q a w:=by
 refine wp_region_any hm ?_;rw[←hl]
 have:=jeo hE hT hD hED hs ord _ _ _ h
 unfold jbo at this;rw[hl]at this ⊢;exact jid hE (fun _ _ h=>h) _ _ _ _ this
variable {Q:Act→World→Prop} {ord done hd:List Nat} {a:Act} {w:World} {k z:Nat} {o:Oper}
def jn3(l:List Oper)(z:Nat)(done:List Nat)(k:Nat):Bool:=(Region.ready .any l.toArray (jbo l done)).contains k && Region.free .any l.toArray (jbo l done) k && (jbo l done).getD z true == false && k != z
theorem jgG(h:jn3 l z done k=true):(k∈Region.ready .any l.toArray (jbo l done)∧Region.free .any l.toArray (jbo l done) k=true)∧(jbo l done).getD z true=false∧k≠z:=by
 simp only[jn3,Bool.and_eq_true,List.contains_iff_mem,beq_iff_eq,bne_iff_ne]at h
 exact⟨h.1.1,h.1.2,h.2⟩
theorem ja8(o:Oper)(ho:l[k]?=some o)(hk:jn3 l z done k=true)(hw:Region.wanted o (yielded l.toArray a.tmps)=true)(hq:jiv o.op=true)
  (h:∀ K:Act→Prop,(∀ a',MixZ P l z hd E D Q ord (k :: done) a' w→K a')→o.quiet P a (fun _=>True) K):MixZ P l z hd E D Q (k :: ord) done a w:=by
 obtain⟨⟨k1,k2⟩,k3,k4⟩:=jgG hk
 obtain⟨v,h1,h2⟩:=h _ (fun _ h=>h)
 refine⟨k3,k4,.inl ⟨k1,k2,o,v,ho,.inr (.inl ⟨hw,fun w1=>?_⟩),h2⟩⟩
 have h3:=h1 w1 trivial;unfold Oper.quietAt at h3;have h4:=fun f args w'=>jju (ρ:=a.eval) hq P w1 w' f args;generalize (execOp a.eval o).run P w1=r at *;cases r with
 | ok n w'=>cases n <;> simp only[Oper.quietUpon]at h3 <;> first | exact h3 | exact absurd rfl (h4 _ _ _)
 | halt x w'=>simp only[Oper.quietUpon]at h3
theorem jcG(o:Oper)(v:Value)(ho:l[k]?=some o)(hk:jn3 l z done k=true)(hw:Region.wanted o (yielded l.toArray a.tmps)=true)
  (hv:∀ w1,(execOp a.eval o).run P w1=.ok (.value v) w1) (h:MixZ P l z hd E D Q ord (k :: done) (a.put o.dst v) w):MixZ P l z hd E D Q (k :: ord) done a w:=by
 obtain⟨⟨k1,k2⟩,k3,k4⟩:=jgG hk
 exact⟨k3,k4,.inl ⟨k1,k2,o,v,ho,.inr (.inl ⟨hw,fun w1=>by rw[hv w1];exact⟨rfl,rfl⟩⟩),h⟩⟩
theorem jsG(o:Oper)(v:Value)(ho:l[k]?=some o)(hk:jn3 l z done k=true)(he:jnW l.toArray z k=true)(hw:Region.wanted o (yielded l.toArray a.tmps)=true)
  (hv:∀ w1,D w w1→(execOp a.eval o).run P w1=.ok (.value v) w1) (h:MixZ P l z hd E D Q ord (k :: done) (a.put o.dst v) w):MixZ P l z hd E D Q (k :: ord) done a w:=by
 obtain⟨⟨k1,k2⟩,k3,k4⟩:=jgG hk
 exact⟨k3,k4,.inl ⟨k1,k2,o,v,ho,.inl ⟨he,.inl ⟨hw,fun w1 hc=>by rw[hv w1 hc];exact⟨rfl,rfl⟩⟩⟩,h⟩⟩
theorem jgd(p:Addr)(v:Value){t:TypeId}{x:Operand}{d:Option Tmp}{ty:TypeId}{pos:String}{af:Array Edge}{g:Option (Nat × Bool)}(ho:l[k]?=some ⟨d,.load t x,ty,pos,af,g⟩)(hk:jn3 l z done k=true)(he:jnW l.toArray z k=true)
  (hw:Region.wanted ⟨d,.load t x,ty,pos,af,g⟩ (yielded l.toArray a.tmps)=true) (hx:a.eval x=.pointer (some p))
  (hv:∀ w1,D w w1→(Instr.loadAt t (.pointer (some p))).run P w1=.ok v w1) (h:MixZ P l z hd E D Q ord (k :: done) (a.put d v) w):MixZ P l z hd E D Q (k :: ord) done a w:=by
 refine jsG _ v ho hk he hw (fun w1 hc=>?_) h
 have:=hv w1 hc
 simp only[execOp,hx,Sem.run_bind,this,Result.andThen,Sem.run_pure]
def jtw(l:List Oper)(z:Nat)(hd done:List Nat)(k:Nat):Bool:=Region.ready .any l.toArray (jbo l done) == [k] && (jbo l done).getD z true == false && k != z && hd.contains k
theorem jgb(o:Oper)(ho:l[k]?=some o)(hk:jtw l z hd done k=true)(hw:Region.wanted o (yielded l.toArray a.tmps)=true)
  (h:∀ w1,E w w1→∀ K:Act→World→Prop,(∀ a' w',D w1 w'→MixZ P l z hd E D Q ord (k :: done) a' w'→K a' w')→o.wp P a w1 K NoQ):MixZ P l z hd E D Q (k :: ord) done a w:=by
 simp only[jtw,Bool.and_eq_true,beq_iff_eq,bne_iff_ne,List.contains_iff_mem]at hk
 refine⟨hk.1.1.2,hk.1.2,.inr ⟨hk.1.1.1,hk.2,fun w1 he=>?_⟩⟩
 unfold wpOp;have ho':l.toArray[k]?=some o:=by simpa using ho
 simp only[ho',hw,if_true];exact .inl (h w1 he _ (fun _ _ h1 h2=>⟨h1,h2⟩))
def jwD(l:List Oper)(z:Nat)(done:List Nat):Bool:=Region.ready .any l.toArray (jbo l done) == [z] && (jbo l done).getD z true == false && (jbo l (z :: done)).getD z true == true && (Region.ready .any l.toArray (jbo l (z :: done))).isEmpty
theorem jgc(o:Oper)(ho:l[z]?=some o)(hk:jwD l z done=true)(hw:Region.wanted o (yielded l.toArray a.tmps)=true)
  (h:∀ w1,E w w1→∀ K:Act→World→Prop,(∀ a' w',Q a' w'→K a' w')→o.wp P a w1 K NoQ):MixZ P l z hd E D Q [] done a w:=by
 simp only[jwD,Bool.and_eq_true,beq_iff_eq,List.isEmpty_iff]at hk
 refine⟨hk.1.1.1,hk.1.1.2,hk.1.2,hk.2,fun w1 he=>?_⟩
 unfold wpOp;have ho':l.toArray[z]?=some o:=by simpa using ho
 simp only[ho',hw,if_true];exact .inl (h w1 he _ (fun _ _ h=>h))
end mixz
end
section
open Go Go.RowKit
attribute [local go_sem] Oper.semAt_some
theorem jc9{p:ByteArray}(h:p.size≠0):p.toList.isEmpty=false:=by
 rw[Bool.eq_false_iff];intro e;rw[List.isEmpty_iff,ByteArray.toList_eq]at e;exact h (by rw[←jaR,e];rfl)
theorem PaEx.mk1{D:Nat→Prop}{W W':World}{P:PA}{v:Value}(h:PaAt P v (Grow D W W') W')(e:Ext W W'):PaEx D W P (.returned v) W':=⟨v,rfl,h,e⟩
theorem jwT(W:World)(D:Nat→Prop)(P:PA)(v:Value)(h:PaAt P v D W):Calls Tryz.prog 294 #[.string ⟨#[]⟩,v] W (PaEx D W P):=by
 have H:=Hd h;clear h;go_enter Tryz.func294,Tryz.ntmps294;have hem:(⟨#[]⟩:ByteArray).toList.isEmpty=true:=by rw[ByteArray.toList_eq];rfl
 go_wp2_with fail
 go_ret;exact PaEx.mk1 (H.o.mono (fun x hx=>.inl hx)) (ExtR W)
theorem ju3(W:World)(D:Nat→Prop)(a q u:ByteArray)(b:Nat)(hB:Blk W b (.cells #[.string q,.string u] 267))(h0:a.size≠0)(ha:a.size≤1000000)(hq:q.size≤1000000) :
  Calls Tryz.prog 294 #[.string a,jh9 b] W (PaEx D W (.leaf (a++q) u)):=by
 have hne:=jc9 h0;have q0:=hB.cell (i:=0) (v:=.string q) (by rfl);have q1:=hB.cell (i:=1) (v:=.string u) (by rfl);have Q0:=Hd q0;have Q1:=Hd q1;have hT:=juP b;unfold jh9 at hT ⊢;clear hB h0 q0 q1;go_enter Tryz.func294,Tryz.ntmps294;go_wp2_with fail
 refine jan [0,1,2,3,4,5,6,7,8,9,10,11,12,13] (Ext) ExtR ExtT (by kernel_rfl) (by kernel_rfl) (by kernel_rfl) ?_;iterate 2 (refine jag _ rfl (by kernel_rfl) rfl rfl (fun K hK=>?_);go_big_quiet_op;refine hK _ ?_;clear hK K)
 refine jce _ ((.pointer (some ⟨b,0,none⟩))) rfl (by kernel_rfl) rfl (fun w1 _=>by kernel_rfl) ?_;simp only[Act.put,sA,sB,sC]
 (refine jag _ rfl (by kernel_rfl) rfl rfl (fun K hK=>?_);go_big_quiet_op;refine hK _ ?_;clear hK K)
 refine jal ⟨b,0,none⟩ _ rfl (by kernel_rfl) rfl rfl (fun w1 h1=>jav (fun w=>by kernel_rfl) (jaa Q0.o ((jak _).trans h1))) ?_;simp only[Act.put,sA,sB,sC];iterate 2 (refine jag _ rfl (by kernel_rfl) rfl rfl (fun K hK=>?_);go_big_quiet_op;refine hK _ ?_;clear hK K)
 refine jce _ ((.pointer (some ⟨b,0,none⟩))) rfl (by kernel_rfl) rfl (fun w1 _=>by kernel_rfl) ?_;simp only[Act.put,sA,sB,sC]
 (refine jag _ rfl (by kernel_rfl) rfl rfl (fun K hK=>?_);go_big_quiet_op;refine hK _ ?_;clear hK K)
 refine jal ⟨b,1,none⟩ _ rfl (by kernel_rfl) rfl rfl (fun w1 h1=>jav (fun w=>by kernel_rfl) (jaa Q1.o ((jak _).trans h1))) ?_;simp only[Act.put,sA,sB,sC]
 (refine jag _ rfl (by kernel_rfl) rfl rfl (fun K hK=>?_);go_big_quiet_op;refine hK _ ?_;clear hK K)
 refine jea _ rfl (by kernel_rfl) rfl (fun wb hb K hK=>?_);refine jcH (v:=.pointer (some ⟨wb.heap.size,0,none⟩)) (w':=wb.alloc (.cells #[.string (a++q),.string u] 267)) (by kernel_rfl) (hK _ _ ((ExtR wb).alloc _) ?_);clear hK K;have hN:=Blk.new wb (.cells #[.string (a++q),.string u] 267);simp only[Act.put,sA,sB,sC];iterate 2 (refine jag _ rfl (by kernel_rfl) rfl rfl (fun K hK=>?_);go_big_quiet_op;refine hK _ ?_;clear hK K)
 refine jaW (by kernel_rfl) (fun w5 he=>?_);have hE:Ext W w5:=(((jak W).trans hb).trans ((ExtR wb).alloc _)).trans he;have hB5:=hN.keeps he (fun h=>h);have hz:=hb.size;have hz:W.heap.size≤wb.heap.size:=hz;have hl:=hB5.lt;have HX:=Hd (And.intro hE (And.intro hB5 (And.intro hz hl)));clear he hN hb hE hB5 hz hl;go_wp2_with fail
 go_ret
 obtain⟨hE,hB5,hz,hl⟩:=HX.o
 exact PaEx.mk1 ⟨_,rfl,.inr ⟨hz,hl⟩,hB5⟩ hE
theorem jwS(W:World)(D:Nat→Prop)(a q:ByteArray)(n:PA)(T:TypeId)(x:Value)(Dn:Nat→Prop)(b:Nat)(hB:Blk W b (.cells #[.string q,.iface T x] 270))(hv:PaAt n (.iface T x) Dn W)(hD:∀ x,Dn x→D x∧x < W.heap.size)(h0:a.size≠0)(ha:a.size≤1000000)(hq:q.size≤1000000) :
  Calls Tryz.prog 294 #[.string a,extV b] W (PaEx D W (.ext (a++q) n)):=by
 have hne:=jc9 h0;have q0:=hB.cell (i:=0) (v:=.string q) (by rfl);have q1:=hB.cell (i:=1) (v:=.iface T x) (by rfl);have Q0:=Hd q0;have Q1:=Hd q1;have HV:=Hd (And.intro hv hD);have hT:=jwr b;have hT0:=jlM (extV b) (.inl ⟨b,rfl⟩);unfold extV at hT hT0 ⊢;clear hB h0 q0 q1 hv hD;go_enter Tryz.func294,Tryz.ntmps294;go_wp2_with fail
 refine jan [0,1,2,3,4,5,6,7,8,9,10,11,12,13] (Ext) ExtR ExtT (by kernel_rfl) (by kernel_rfl) (by kernel_rfl) ?_;iterate 2 (refine jag _ rfl (by kernel_rfl) rfl rfl (fun K hK=>?_);go_big_quiet_op;refine hK _ ?_;clear hK K)
 refine jce _ ((.pointer (some ⟨b,0,none⟩))) rfl (by kernel_rfl) rfl (fun w1 _=>by kernel_rfl) ?_;simp only[Act.put,sA,sB,sC]
 (refine jag _ rfl (by kernel_rfl) rfl rfl (fun K hK=>?_);go_big_quiet_op;refine hK _ ?_;clear hK K)
 refine jal ⟨b,0,none⟩ _ rfl (by kernel_rfl) rfl rfl (fun w1 h1=>jav (fun w=>by kernel_rfl) (jaa Q0.o ((jak _).trans h1))) ?_;simp only[Act.put,sA,sB,sC];iterate 2 (refine jag _ rfl (by kernel_rfl) rfl rfl (fun K hK=>?_);go_big_quiet_op;refine hK _ ?_;clear hK K)
 refine jce _ ((.pointer (some ⟨b,0,none⟩))) rfl (by kernel_rfl) rfl (fun w1 _=>by kernel_rfl) ?_;simp only[Act.put,sA,sB,sC]
 (refine jag _ rfl (by kernel_rfl) rfl rfl (fun K hK=>?_);go_big_quiet_op;refine hK _ ?_;clear hK K)
 refine jal ⟨b,1,none⟩ _ rfl (by kernel_rfl) rfl rfl (fun w1 h1=>jav (fun w=>by kernel_rfl) (jaa Q1.o ((jak _).trans h1))) ?_;simp only[Act.put,sA,sB,sC]
 (refine jag _ rfl (by kernel_rfl) rfl rfl (fun K hK=>?_);go_big_quiet_op;refine hK _ ?_;clear hK K)
 refine jea _ rfl (by kernel_rfl) rfl (fun wb hb K hK=>?_);refine jcH (v:=.pointer (some ⟨wb.heap.size,0,none⟩)) (w':=wb.alloc (.cells #[.string (a++q),.iface T x] 270)) (by kernel_rfl) (hK _ _ ((ExtR wb).alloc _) ?_);clear hK K;have hN:=Blk.new wb (.cells #[.string (a++q),.iface T x] 270);simp only[Act.put,sA,sB,sC];iterate 2 (refine jag _ rfl (by kernel_rfl) rfl rfl (fun K hK=>?_);go_big_quiet_op;refine hK _ ?_;clear hK K)
 refine jaW (by kernel_rfl) (fun w5 he=>?_);have hE:Ext W w5:=(((jak W).trans hb).trans ((ExtR wb).alloc _)).trans he;have hB5:=hN.keeps he (fun h=>h);have hz:=hb.size;have hz:W.heap.size≤wb.heap.size:=hz;have hl:=hB5.lt;have HX:=Hd (And.intro hE (And.intro hB5 (And.intro hz hl)));clear he hN hb hE hB5 hz hl;go_wp2_with fail
 go_ret
 obtain⟨hE,hB5,hz,hl⟩:=HX.o
 obtain⟨hv,hD⟩:=HV.o
 exact PaEx.mk1 ⟨_,T,x,Dn,rfl,.inr ⟨hz,hl⟩,hB5,hv.keeps hE n (.iface T x) Dn (fun _ _ e=>e),fun e=>by have:=(hD _ e).2;omega,fun x hx=>.inl (hD x hx).1⟩ hE
theorem jxH(W:World)(D:Nat→Prop)(a:ByteArray)(u:ByteArray)(ks:Nat→PA)(b:Nat)(h:PaO (.br u ks) (brV b) D W)(h0:a.size≠0) :
  Calls Tryz.prog 294 #[.string a,brV b] W (PaEx D W (.ext a (.br u ks))):=by
 have hne:=jc9 h0;have HV:=Hd h;have hT:=jxy b;have hT0:=jlM (brV b) (.inr (.inl ⟨b,rfl⟩));have hT1:=jtD (brV b) (.inl ⟨b,rfl⟩);unfold brV at hT hT0 hT1 ⊢;clear h h0;go_enter Tryz.func294,Tryz.ntmps294;go_wp2_with fail
 go_ret;have hE:Ext W (W.alloc (.cells #[.string a,brV b] 270)):=(ExtR W).alloc _;have hB:=Blk.new W (.cells #[.string a,brV b] 270);exact PaEx.mk1 ⟨_,_,_,D,rfl,.inr ⟨Nat.le_refl _,hB.lt⟩,hB,HV.o.at'.keeps hE _ _ _ (fun _ _ e=>e),fun e=>by have:=HV.o.lt _ e;omega,fun x hx=>.inl hx⟩ hE
theorem jxI(W:World)(D:Nat→Prop)(a:ByteArray)(h0:a.size≠0):Calls Tryz.prog 294 #[.string a,noV] W (PaEx D W .no):=by
 have hne:=jc9 h0;have hT0:=jlM noV (.inr (.inr rfl));have hT1:=jtD noV (.inr rfl);have hT2:=jxz;unfold noV at hT0 hT1 hT2 ⊢;clear h0;go_enter Tryz.func294,Tryz.ntmps294;go_wp2_with fail
 go_ret;exact PaEx.mk1 rfl (ExtR W)
theorem pj_c(W:World)(D:Nat→Prop)(a:ByteArray)(P:PA)(v:Value)(h:PaO P v D W)(hn:P.isNil=false)(ha:a.size≤1000000)(hd:Dp P 1000000) :
  Calls Tryz.prog 294 #[.string a,v] W (PaEx D W (jcm a P)):=by
 unfold jcm
 by_cases h0:a.size=0
 ·rw[if_pos h0,jbF h0];exact jwT W D P v h.at'
 rw[if_neg h0];cases P with
 | nil=>cases hn
 | no=>obtain rfl:v=noV:=h.at';exact jxI W D a h0
 | leaf q u =>
  obtain⟨b,rfl,h1,h2⟩:=h.at'
  exact ju3 W D a q u b h2 h0 ha hd
 | ext q n =>
  obtain⟨b,T,x,Dn,rfl,h1,h2,h3,h4,h5⟩:=h.at'
  exact jwS W D a q n T x Dn b h2 h3 (fun x hx=>⟨h5 x hx,h.lt x (h5 x hx)⟩) h0 ha hd.1
 | br u ks =>
  obtain⟨b,vk,Dk,rfl,h1,h2,h3,h4⟩:=h.at'
  exact jxH W D a u ks b h h0
end
section
open Go Go.RowKit
attribute [local go_sem] Oper.semAt_some
theorem jdD{a:ByteArray}{P:PA}(h:P.isNil=false):(jcm a P).isNil=false:=by
 unfold jcm;split
 ·exact h
 ·cases P <;> rfl
theorem jhX:∀ (P:PA) (p u:ByteArray),(putP P p u).isNil=false
 | .nil,_,_=>rfl
 | .no,_,_=>rfl
 | .leaf q v,p,u=>by
  unfold putP;split
  ·rfl
  ·refine jdD ?_
   rw[jcS];split
   ·rw[jcS];split <;> rfl
   ·rw[jcS];split <;> rfl
 | .ext q n,p,u=>by
  unfold putP;split
  ·exact jdD (jhX n _ _)
  ·refine jdD ?_
   rw[jcS];split <;> rfl
 | .br v ks,p,u=>by
  unfold putP;split <;> rfl
theorem jcJ{P:Program}{a:Act}{w:World}{d:Option Tmp}{x:Operand}{name:String}{args:Array Operand}{ats:Array TypeId}{ty:TypeId}{pos:String}{af:Array Edge}{g:Option (Nat × Bool)}{T:TypeId}{v r:Value}{f:FuncId}{vs:Array Value}(hx:a.eval x=.iface T v)
  (hm:(Go.method (P.types.size+Made.depth) T v name).run P w=.ok (f,r) w) (eg:∀ args w,(callFunc f args).run P w=.ok (.enter f args) w) (hv:args.map a.eval=vs) :
  (execOp a.eval ⟨d,.call { callee:=.invoke x name,args:=args,argTypes:=ats },ty,pos,af,g⟩).run P w=.ok (.enter f (#[r]++vs)) w:=by
 subst hv;have h0:(#[Value.iface T v]++args.map a.eval)[0]?=some (.iface T v):=by simp[Array.getElem?_append]
 have h1:(#[Value.iface T v]++args.map a.eval).extract 1 (#[Value.iface T v]++args.map a.eval).size=args.map a.eval:=by simp
 simp only[execOp,resolve,hx,Sem.run_bind,Sem.run_pure,Result.andThen,invoke,h0,h1,callMethod,run_program,hm,eg]
def jjn:PA→FuncId
 | .leaf _ _=>292
 | .ext _ _=>298
 | .br _ _=>293
 | _=>306
def jeX:PA→FuncId
 | .leaf _ _=>289
 | .ext _ _=>295
 | .br _ _=>299
 | _=>303
def jgf:PA→FuncId
 | .leaf _ _=>290
 | .ext _ _=>296
 | .br _ _=>300
 | _=>304
def jkN:PA→FuncId
 | .leaf _ _=>291
 | .ext _ _=>297
 | .br _ _=>301
 | _=>305
set_option maxRecDepth 100000
theorem jhz(P:PA):∀ args w,(callFunc (jjn P) args).run Tryz.prog w=.ok (.enter (jjn P) args) w:=by intro args w;cases P <;> kernel_rfl
theorem jfg(P:PA):∀ args w,(callFunc (jeX P) args).run Tryz.prog w=.ok (.enter (jeX P) args) w:=by intro args w;cases P <;> kernel_rfl
theorem jeP(P:PA):∀ args w,(callFunc (jgf P) args).run Tryz.prog w=.ok (.enter (jgf P) args) w:=by intro args w;cases P <;> kernel_rfl
theorem jnX(P:PA):∀ args w,(callFunc (jkN P) args).run Tryz.prog w=.ok (.enter (jkN P) args) w:=by intro args w;cases P <;> kernel_rfl
structure jvQ(P:PA)(T:TypeId)(x:Value):Prop where
 put:∀ w,(Go.method (Tryz.prog.types.size+Made.depth) T x "guilloche/trie.put").run Tryz.prog w=.ok (jjn P,x) w
 drop:∀ w,(Go.method (Tryz.prog.types.size+Made.depth) T x "guilloche/trie.drop").run Tryz.prog w=.ok (jeX P,x) w
 ent:∀ w,(Go.method (Tryz.prog.types.size+Made.depth) T x "guilloche/trie.entries").run Tryz.prog w=.ok (jgf P,x) w
 form:∀ w,(Go.method (Tryz.prog.types.size+Made.depth) T x "guilloche/trie.form").run Tryz.prog w=.ok (jkN P,x) w
theorem PaAt.meth{P:PA}{T:TypeId}{x:Value}{D:Nat→Prop}{W:World}(h:PaAt P (.iface T x) D W):jvQ P T x:=by
 cases P with
 | nil=>cases h
 | no =>
  have h:Value.iface T x=noV:=h;unfold noV at h;injection h with h1 h2;subst h1 h2
  exact⟨fun w=>by kernel_rfl,fun w=>by kernel_rfl,fun w=>by kernel_rfl,fun w=>by kernel_rfl⟩
 | leaf q u =>
  obtain⟨b,h,_⟩:=h
  unfold jh9 at h;injection h with h1 h2;subst h1 h2
  exact⟨fun w=>by kernel_rfl,fun w=>by kernel_rfl,fun w=>by kernel_rfl,fun w=>by kernel_rfl⟩
 | ext q n =>
  obtain⟨b,_,_,_,h,_⟩:=h
  unfold extV at h;injection h with h1 h2;subst h1 h2
  exact⟨fun w=>by kernel_rfl,fun w=>by kernel_rfl,fun w=>by kernel_rfl,fun w=>by kernel_rfl⟩
 | br u ks =>
  obtain⟨b,_,_,h,_⟩:=h
  unfold brV at h;injection h with h1 h2;subst h1 h2
  exact⟨fun w=>by kernel_rfl,fun w=>by kernel_rfl,fun w=>by kernel_rfl,fun w=>by kernel_rfl⟩
theorem juV:jvQ .no 276 (.agg #[]):=PaAt.meth (D:=fun _=>True) (W:={ (default:World)with heap:=#[] }) rfl
def PutC(P:PA):Prop:=∀ (W:World) (T:TypeId) (x:Value) (D:Nat→Prop) (p u:ByteArray),PaO P (.iface T x) D W→p.size≤900000→jaL p=true→Dp P 900000 →
 Calls Tryz.prog (jjn P) #[x,.string p,.string u] W (PaTo D W (putP P p u))
theorem PaTo.mk1{D:Nat→Prop}{W W':World}{P:PA}{v:Value}(h:PaAt P v (Grow D W W') W')(e:jac D W W'):PaTo D W P (.returned v) W':=⟨v,rfl,h,e⟩
theorem jly(T:TypeId)(x:Value)(w:World):(binOp .eql 94 (.iface T x) .nilIface).run Tryz.prog w=.ok (.bool false) w:=by kernel_rfl
theorem jwo(w:World):(binOp .eql 94 .nilIface .nilIface).run Tryz.prog w=.ok (.bool true) w:=by kernel_rfl
theorem jgr(u:ByteArray)(vk:Nat→Value):(brC u vk).length=17:=by simp[brC]
theorem jep(u:ByteArray)(vk:Nat→Value){i:Nat}(h:i < 16):(brC u vk)[1+i]?=some (vk i):=by
 rw[Nat.add_comm];show ((List.range 16).map vk)[i]?=_;rw[List.getElem?_map,List.getElem?_range h];rfl
def setV(vk:Nat→Value)(i:Nat)(v:Value):Nat→Value:=fun j=>if j=i then v else vk j
theorem jpe(u:ByteArray)(vk:Nat→Value){i:Nat}(h:i < 16)(v:Value):(brC u vk).toArray.setIfInBounds (1+i) v=(brC u (setV vk i v)).toArray:=by
 have e:(brC u vk).set (1+i) v=brC u (setV vk i v):=by
  rw[Nat.add_comm];show Value.string u ::((List.range 16).map vk).set i v=Value.string u ::(List.range 16).map (setV vk i v)
  congr 1
  apply List.ext_getElem?;intro j;rw[List.getElem?_set]
  by_cases hj:i=j
  ·subst hj
   rw[if_pos rfl,if_pos (by simpa using h),List.getElem?_map,List.getElem?_range h];simp[setV]
  ·rw[if_neg hj]
   by_cases hj16:j < 16
   ·rw[List.getElem?_map,List.getElem?_map,List.getElem?_range hj16]
    simp[setV,Ne.symm hj]
   ·rw[List.getElem?_eq_none (by simp;omega),List.getElem?_eq_none (by simp;omega)]
 rw[←e];simp
theorem juj(u u':ByteArray)(vk:Nat→Value):(brC u vk).toArray.setIfInBounds 0 (.string u')=(brC u' vk).toArray:=by simp[brC]
structure BrAt(u:ByteArray)(ks:Nat→PA)(b:Nat)(vk:Nat→Value)(Dk:Nat→Nat→Prop)(D:Nat→Prop)(W:World):Prop where
 mem:D b
 blk:Blk W b (.cells (brC u vk).toArray 274)
 kid:∀ i,i < 16→PaAt (ks i) (vk i) (Dk i) W∧¬ Dk i b∧∀ x,Dk i x→D x
 apart:∀ i j,i < 16→j < 16→i≠j→∀ x,Dk i x→¬ Dk j x
 lt:∀ x,D x→x < W.heap.size
theorem BrAt.pa{u:ByteArray}{ks:Nat→PA}{b:Nat}{vk:Nat→Value}{Dk:Nat→Nat→Prop}{D:Nat→Prop}{W:World}(h:BrAt u ks b vk Dk D W):PaO (.br u ks) (brV b) D W:=
 ⟨⟨b,vk,Dk,rfl,h.mem,h.blk,h.kid,h.apart⟩,h.lt⟩
theorem PaO.br{u:ByteArray}{ks:Nat→PA}{b:Nat}{D:Nat→Prop}{W:World}(h:PaO (.br u ks) (brV b) D W):∃ vk Dk,BrAt u ks b vk Dk D W:=by
 obtain⟨b',vk,Dk,e,h1,h2,h3,h4⟩:=h.at'
 unfold brV at e;injection e with _ e;injection e with e;injection e with e;injection e with e;subst e
 exact⟨vk,Dk,h1,h2,h3,h4,h.lt⟩
theorem BrAt.keeps{F:BSet}{u:ByteArray}{ks:Nat→PA}{b:Nat}{vk:Nat→Value}{Dk:Nat→Nat→Prop}{D:Nat→Prop}{W W':World}(h:BrAt u ks b vk Dk D W)(k:jac F W W')(hF:∀ x,D x→¬ F x):BrAt u ks b vk Dk D W':=
 ⟨h.mem,h.blk.keeps k (hF b h.mem),fun i hi=>⟨(h.kid i hi).1.keeps k _ _ _ (fun x hx=>hF x ((h.kid i hi).2.2 x hx)),(h.kid i hi).2⟩,h.apart,fun x hx=>Nat.lt_of_lt_of_le (h.lt x hx) k.size⟩
theorem BrAt.val{u:ByteArray}{ks:Nat→PA}{b:Nat}{vk:Nat→Value}{Dk:Nat→Nat→Prop}{D:Nat→Prop}{W:World}(h:BrAt u ks b vk Dk D W)(u':ByteArray):BrAt u' ks b vk Dk D (W.setCell ⟨b,0,none⟩ (.string u')):=by
 have K:=jac.oneSet W ⟨b,0,none⟩ (.string u');have hB:=h.blk.set_same (i:=0) (.string u');rw[juj]at hB
 exact⟨h.mem,hB,fun i hi=>⟨(h.kid i hi).1.keeps K _ _ _ (fun x hx e=>(h.kid i hi).2.1 (by have e:x=b:=e;rw[←e];exact hx)),(h.kid i hi).2⟩,h.apart,fun x hx=>Nat.lt_of_lt_of_le (h.lt x hx) K.size⟩
theorem BrAt.turn{u:ByteArray}{ks:Nat→PA}{b:Nat}{vk:Nat→Value}{Dk:Nat→Nat→Prop}{D:Nat→Prop}{W W1:World}(h:BrAt u ks b vk Dk D W){i:Nat}(hi:i < 16){P:PA}{v:Value}(k:jac (Dk i) W W1)(hP:PaAt P v (Grow (Dk i) W W1) W1) :
  BrAt u (setK ks i P) b (setV vk i v) (fun j=>if j=i then Grow (Dk i) W W1 else Dk j) (Grow D W W1) (W1.setCell ⟨b,1+i,none⟩ v):=by
 have K:=jac.oneSet W1 ⟨b,1+i,none⟩ v;have hB:=(h.blk.keeps k (h.kid i hi).2.1).set_same (i:=1+i) v;rw[jpe u vk hi]at hB;have hbl:=h.lt b h.mem
 refine⟨.inl h.mem,hB,fun j hj=>?_,fun j l hj hl hne x hx hx'=>?_,fun x hx=>?_⟩
 ·by_cases e:j=i
  ·subst e
   simp only[if_pos,jco];rw[show setV vk j v j=v from if_pos rfl]
   refine⟨hP.keeps K _ _ _ (fun x hx e=>?_),fun e=>?_,fun x hx=>?_⟩
   ·have e:x=b:=e
    rw[e]at hx;rcases hx with hx | hx
    ·exact (h.kid j hi).2.1 hx
    ·omega
   ·rcases e with e | e
    ·exact (h.kid j hi).2.1 e
    ·omega
   ·rcases hx with hx | hx
    ·exact .inl ((h.kid j hi).2.2 x hx)
    ·exact .inr hx
  ·simp only[if_neg e]
   rw[jeC _ _ e,show setV vk i v j=vk j from if_neg e]
   refine⟨((h.kid j hj).1.keeps k _ _ _ (fun x hx hx'=>h.apart j i hj hi e x hx hx')).keeps K _ _ _ (fun x hx e=>?_),(h.kid j hj).2.1,fun x hx=>.inl ((h.kid j hj).2.2 x hx)⟩
   have e:x=b:=e;rw[e]at hx;exact (h.kid j hj).2.1 hx
 ·have far:∀ m,m < 16→Dk m x→¬(W.heap.size≤x∧x < W1.heap.size):=fun m hm hd e=>by have:=h.lt x ((h.kid m hm).2.2 x hd);omega
  by_cases e:j=i
  ·subst e
   have g1:Grow (Dk j) W W1 x:=by simpa using hx
   have g2:Dk l x:=by simpa [Ne.symm hne]using hx'
   rcases g1 with g1 | g1
   ·exact h.apart j l hj hl hne x g1 g2
   ·exact far l hl g2 g1
  ·have g1:Dk j x:=by simpa [e]using hx
   by_cases e2:l=i
   ·subst e2
    have g2:Grow (Dk l) W W1 x:=by simpa using hx'
    rcases g2 with g2 | g2
    ·exact h.apart j l hj hl hne x g1 g2
    ·exact far j hj g1 g2
   ·have g2:Dk l x:=by simpa [e2]using hx'
    exact h.apart j l hj hl hne x g1 g2
 ·exact Nat.lt_of_lt_of_le (jew h.lt k x hx) K.size
theorem BrAt.turn_keeps{u:ByteArray}{ks:Nat→PA}{b:Nat}{vk:Nat→Value}{Dk:Nat→Nat→Prop}{D:Nat→Prop}{W W1:World}(h:BrAt u ks b vk Dk D W){i:Nat}(hi:i < 16)(k:jac (Dk i) W W1)(v:Value):jac D W (W1.setCell ⟨b,1+i,none⟩ v):=
 (k.mono (fun x _ hx=>(h.kid i hi).2.2 x hx)).trans' (jac.oneSet W1 ⟨b,1+i,none⟩ v) (fun x _ e=>by have e:x=b:=e;rw[e];exact h.mem)
theorem jqE(W:World)(D:Nat→Prop)(p u:ByteArray):Calls Tryz.prog 306 #[.agg #[],.string p,.string u] W (PaTo D W (.leaf p u)):=by
 go_enter Tryz.func306,Tryz.ntmps306;go_wp2_with fail
 go_ret;have hE:=((ExtR W).alloc (.cells #[] 276)).alloc (.cells #[.string p,.string u] 267);have hB:=Blk.new (W.alloc (.cells #[] 276)) (.cells #[.string p,.string u] 267);rw[World.size_alloc]at hB;exact PaTo.mk1 ⟨_,rfl,.inr ⟨Nat.le_succ _,hB.lt⟩,hB⟩ (hE.mono (fun _ _ e=>e.elim))
theorem jmk(W:World)(D:Nat→Prop)(u0 u:ByteArray)(ks:Nat→PA)(b:Nat)(h:PaO (.br u0 ks) (brV b) D W):Calls Tryz.prog 293 #[.pointer (some ⟨b,0,none⟩),.string ⟨#[]⟩,.string u] W (fun e w'=>e=.returned (brV b)∧PaTo D W (.br u ks) e w'):=by
 obtain⟨vk,Dk,hb⟩:=h.br
 have q0:=hb.blk.cellL (i:=0) (v:=.string u0) (by rfl);have f0:W.frozen? ⟨b,0,none⟩=false:=hb.blk.frozen;have H:=Hd hb;have hem:(⟨#[]⟩:ByteArray).toList.isEmpty=true:=by rw[ByteArray.toList_eq];rfl
 clear h hb;go_enter Tryz.func293,Tryz.ntmps293;go_wp2_with fail
 go_ret;have K:=jac.oneSet W ⟨b,0,none⟩ (.string u)
 exact⟨rfl,PaTo.mk1 ((H.o.val u).pa.at'.mono (fun x hx=>.inl hx)) (K.mono (fun x _ e=>by have e:x=b:=e;rw[e];exact H.o.mem))⟩
theorem jrS(W:World)(D:Nat→Prop)(u0 u:ByteArray)(ks:Nat→PA)(b:Nat)(h:PaO (.br u0 ks) (brV b) D W)(p:ByteArray)(h0:p.size≠0)(hp:jaL p=true)(hs:p.size≤900000)(hn:(ks (jao p)).isNil=false)(hd:Dp (ks (jao p)) 900000)(hk:PutC (ks (jao p))) :
  Calls Tryz.prog 293 #[.pointer (some ⟨b,0,none⟩),.string p,.string u] W (fun e w'=>e=.returned (brV b)∧PaTo D W (.br u0 (setK ks (jao p) (putP (ks (jao p)) (jbx p) u))) e w'):=by
 obtain⟨vk,Dk,hb⟩:=h.br
 obtain⟨y,t,hy⟩:=jcp h0
 obtain⟨e1,e2⟩:=jbI hy
 have hi16:=jdN hp h0
 obtain⟨g0,hg0⟩:=jf4 hy
 have hne:=jc9 h0;have hval:=jcv hp;have hrs:(jbx p).size≤900000:=by unfold jbx;rw[ja0];omega
 have hI:jao p=(p[0]'g0).toNat:=by rw[e1,hg0]
 have hkid:=hb.kid (jao p) hi16
 obtain⟨T,x,hvk⟩:=hkid.1.form hn
 have q1:=hb.blk.cellL (jep u0 vk hi16);rw[hvk]at q1;have HK:=Hd hk;have HB:=Hd hb;have HM:=Hd ((show PaAt (ks (jao p)) (.iface T x) (Dk (jao p)) W by rw[←hvk];exact hkid.1).meth);have HKD:=Hd (show PaAt (ks (jao p)) (.iface T x) (Dk (jao p)) W by rw[←hvk];exact hkid.1);have HDP:=Hd hd;clear hb hkid hk hd;have CALLEE:=Hd (show ∀ wb,Ext W wb→Calls Tryz.prog (jjn (ks (jao p))) #[x,.string (jbx p),.string u] wb (PaTo (Dk (jao p)) wb (putP (ks (jao p)) (jbx p) u))from fun wb e=>HK.o wb T x _ _ _ ⟨HKD.o.keeps e _ _ _ (fun _ _ e=>e),fun z hz=>Nat.lt_of_lt_of_le (HB.o.lt z ((HB.o.kid _ hi16).2.2 z hz)) e.size⟩ hrs hval HDP.o);have hQ:=jly T x;have Q1:=Hd q1;have HNF:=Hd (show ¬(Dk (jao p) b∨W.heap.size≤b)from fun e=>e.elim (HB.o.kid _ hi16).2.1 (fun e=>by have:=HB.o.lt b HB.o.mem;omega));have HHI:=Hd hI;have HI16:=Hd hi16;have HVL:=Hd (And.intro hval hrs);have c1:(0:Int) < (p.size:Int):=by omega
 have c2:((p[0]'g0).toNat:Int) < 16:=by omega
 have c3:(1:Int)≤(p.size:Int):=by omega
 rw[hI]at q1;have hlt16:(p[0]'g0).toNat < 16:=by omega
 obtain⟨i,hi⟩:∃ i,i=(p[0]'g0).toNat:=⟨_,rfl⟩
 have HIE:=Hd hi;clear h hvk hy e1 e2 h0 hp hn hg0 hval hrs hi16 hI hi;go_enter Tryz.func293,Tryz.ntmps293;go_wp2_with fail
 refine jdi [0,1,2,3,4,5,6,7,8,9,10,11,12,14,15,13,16] 17 [13] Ext (jac (fun z=>Dk (jao p) z∨W.heap.size≤z)) ExtR ExtT (fun x y z h k=>jac.trans h k) (fun x y h=>h.mono (fun _ _ h=>h.elim)) (by kernel_rfl) (by kernel_rfl) (by kernel_rfl) ?_;iterate 4 (refine ja8 _ rfl (by kernel_rfl) rfl rfl (fun K hK=>?_);go_big_quiet_op;refine hK _ ?_;clear hK K)
 refine jcG _ ((.pointer (some ⟨b,0,none⟩))) rfl (by kernel_rfl) rfl (fun w1=>by kernel_rfl) ?_;simp only[Act.put,sA,sB,sC];iterate 2 (refine ja8 _ rfl (by kernel_rfl) rfl rfl (fun K hK=>?_);go_big_quiet_op;refine hK _ ?_;clear hK K)
 refine jgd ⟨b,1+(p[0]'g0).toNat,none⟩ _ rfl (by kernel_rfl) (by kernel_rfl) rfl rfl (fun w1 h1=>jav (fun w=>by kernel_rfl) (by rw[←HHI.o];exact jat Q1.o (((jac.refl (fun z=>Dk (jao p) z∨W.heap.size≤z) W).drew).trans h1) (by exact HNF.o))) ?_;simp only[Act.put,sA,sB,sC];iterate 3 (refine ja8 _ rfl (by kernel_rfl) rfl rfl (fun K hK=>?_);go_big_quiet_op;refine hK _ ?_;clear hK K)
 refine jcG _ (.iface T x) rfl (by kernel_rfl) rfl (fun w1=>by kernel_rfl) ?_;simp only[Act.put,sA,sB,sC]
 (refine ja8 _ rfl (by kernel_rfl) rfl rfl (fun K hK=>?_);go_big_quiet_op;refine hK _ ?_;clear hK K)
 refine jcG _ ((.pointer (some ⟨b,0,none⟩))) rfl (by kernel_rfl) rfl (fun w1=>by kernel_rfl) ?_;simp only[Act.put,sA,sB,sC]
 (refine ja8 _ rfl (by kernel_rfl) rfl rfl (fun K hK=>?_);go_big_quiet_op;refine hK _ ?_;clear hK K)
 refine jgb _ rfl (by kernel_rfl) rfl (fun wb hb K hK=>?_);have kb:Ext W wb:=(jak _).trans hb;refine jby (jcJ (f:=jjn (ks (jao p))) (vs:=#[.string (jbx p),.string u]) rfl (HM.o.put _) (jhz _) (by kernel_rfl)) ?_;refine (CALLEE.o wb kb).mono ?_;rintro e w2 ⟨v2,rfl,hP2,hk2⟩
 refine⟨v2,rfl,hK _ _ (hk2.mono (fun z _ hz=>.inl hz)) ?_⟩
 have HS:=Hd (And.intro kb (And.intro hP2 hk2));clear hK K hb kb hP2 hk2;simp only[Act.put,sA,sB,sC]
 (refine ja8 _ rfl (by kernel_rfl) rfl rfl (fun K hK=>?_);go_big_quiet_op;refine hK _ ?_;clear hK K)
 refine jgc _ rfl (by kernel_rfl) rfl (fun wc hc K hK=>?_)
 obtain⟨hb,hP2,hk2⟩:=HS.o
 have hb2:=HB.o.keeps (F:=fun _=>False) (hb) (fun _ _ e=>e);have kc:jac (Dk (jao p)) wb wc:=hk2.trans (hc.mono (fun _ _ e=>e.elim));have hPc:PaAt (putP (ks (jao p)) (jbx p) u) v2 (Grow (Dk (jao p)) wb wc) wc:=(hP2.keeps hc _ _ _ (fun _ _ e=>e)).mono (fun z hz=>hz.imp id (fun e=>⟨e.1,Nat.lt_of_lt_of_le e.2 hc.size⟩))
 obtain⟨T2,x2,rfl⟩:=hPc.form (jhX _ _ _)
 have ht:=hb2.turn HI16.o kc hPc;have htk:=hb2.turn_keeps HI16.o kc (.iface T2 x2)
 obtain⟨old,q7⟩:∃ v,wc.cell? ⟨b,1+jao p,none⟩=some v:=⟨_,(hb2.blk.keeps kc (hb2.kid _ HI16.o).2.1).cellL (List.getElem?_eq_getElem (by rw[jgr];have:=HI16.o;omega))⟩
 have f7:wc.frozen? ⟨b,1+jao p,none⟩=false:=(hb2.blk.keeps kc (hb2.kid _ HI16.o).2.1).frozen;have HT:=Hd (And.intro ht (And.intro htk hb));rw[HHI.o]at q7 f7;clear hb hP2 hk2 hb2 kc hPc ht htk hc;go_simp;refine hK _ _ ?_;clear hK K q7 f7;go_wp2_with fail
 go_ret
 obtain⟨ht,htk,hb⟩:=HT.o
 rw[←HHI.o]
 exact⟨rfl,PaTo.mk1 (ht.pa.at'.mono (fun z hz=>hz.imp id (fun e=>⟨Nat.le_trans hb.size e.1,Nat.lt_of_lt_of_le e.2 (jac.oneSet wc ⟨b,1+jao p,none⟩ (.iface T2 x2)).size⟩))) (((hb.mono (fun _ _ e=>e.elim)):jac D W wb).trans htk)⟩
theorem jmj(W:World)(D:Nat→Prop)(u0 u:ByteArray)(ks:Nat→PA)(b:Nat)(h:PaO (.br u0 ks) (brV b) D W)(p:ByteArray)(h0:p.size≠0)(hp:jaL p=true)(hs:p.size≤900000)(hn:(ks (jao p)).isNil=true) :
  Calls Tryz.prog 293 #[.pointer (some ⟨b,0,none⟩),.string p,.string u] W (fun e w'=>e=.returned (brV b)∧PaTo D W (.br u0 (setK ks (jao p) (.leaf (jbx p) u))) e w'):=by
 obtain⟨vk,Dk,hb⟩:=h.br
 obtain⟨y,t,hy⟩:=jcp h0
 obtain⟨e1,e2⟩:=jbI hy
 have hi16:=jdN hp h0
 obtain⟨g0,hg0⟩:=jf4 hy
 have hne:=jc9 h0;have hval:=jcv hp;have hrs:(jbx p).size≤900000:=by unfold jbx;rw[ja0];omega
 have hI:jao p=(p[0]'g0).toNat:=by rw[e1,hg0]
 have hkid:=hb.kid (jao p) hi16;have hvk:vk (jao p)=.nilIface:=by have:=hkid.1;rw[jbA hn]at this;exact this
 have q1:=hb.blk.cellL (jep u0 vk hi16);rw[hvk]at q1;have f1:W.frozen? ⟨b,1+jao p,none⟩=false:=hb.blk.frozen
 obtain⟨W1,hW1⟩:∃ W1,W1=W.setCell ⟨b,1+jao p,none⟩ noV:=⟨_,rfl⟩
 have hb1:=hb.turn hi16 (P:=.no) (v:=noV) (jac.refl _ W) rfl;rw[←hW1]at hb1
 obtain⟨Dk1,hDk1⟩:∃ Dk1,Dk1=(fun j=>if j=jao p then Grow (Dk (jao p)) W W else Dk j):=⟨_,rfl⟩
 obtain⟨ks1,hks1⟩:∃ ks1,ks1=setK ks (jao p) .no:=⟨_,rfl⟩
 have hks:setK ks1 (jao p) (.leaf (jbx p) u)=setK ks (jao p) (.leaf (jbx p) u):=by
  funext j;unfold setK;rw[hks1];unfold setK
  by_cases e:j=jao p
  ·rw[if_pos e,if_pos e]
  ·rw[if_neg e,if_neg e,if_neg e]
 rw[←hDk1, ←hks1]at hb1;have hq1:W1.cell? ⟨b,1+jao p,none⟩=some noV:=by
  have:=hb1.blk.cellL (jep u0 _ hi16)
  rw[this];show some (setV vk (jao p) noV (jao p))=_;unfold setV;rw[if_pos rfl]
 have HW1:=Hd hW1;have HKS:=Hd hks;have HD1:=Hd (show ∀ z,Grow D W W z→D z from fun z hz=>hz.elim id (fun e=>by omega));have HK1:=Hd (show jac D W W1 by rw[hW1];exact (jac.oneSet W ⟨b,1+jao p,none⟩ noV).mono (fun z _ e=>by have e:z=b:=e;rw[e];exact hb.mem));have HB:=Hd hb1;have Q1:=Hd hq1;clear hDk1 hks1 hb1 hq1 hks hb hkid;unfold noV at hW1 Q1;have CALLEE:=Hd (show ∀ wb,Ext W1 wb→Calls Tryz.prog 306 #[.agg #[],.string (jbx p),.string u] wb (PaTo (Dk1 (jao p)) wb (.leaf (jbx p) u))from fun wb _=>jqE wb _ _ _);have HNF:=Hd (show ¬(Dk1 (jao p) b∨W1.heap.size≤b)from fun e=>e.elim (HB.o.kid _ hi16).2.1 (fun e=>by have:=HB.o.lt b HB.o.mem;omega));have HHI:=Hd hI;have HI16:=Hd hi16;have HVL:=Hd (And.intro hval hrs);have c1:(0:Int) < (p.size:Int):=by omega
 have c2:((p[0]'g0).toNat:Int) < 16:=by omega
 have c3:(1:Int)≤(p.size:Int):=by omega
 rw[hI]at q1 f1 hW1;have hlt16:(p[0]'g0).toNat < 16:=by omega
 obtain⟨i,hi⟩:∃ i,i=(p[0]'g0).toNat:=⟨_,rfl⟩
 have HIE:=Hd hi;clear h hvk hy e1 e2 h0 hp hn hg0 hval hrs hi16 hI hi;go_enter Tryz.func293,Tryz.ntmps293;go_wp2_with fail
 rw[←hW1];refine jdi [0,1,2,3,4,5,6,7,8,9,10,11,12,14,15,13,16] 17 [13] Ext (jac (fun z=>Dk1 (jao p) z∨W1.heap.size≤z)) ExtR ExtT (fun x y z h k=>jac.trans h k) (fun x y h=>h.mono (fun _ _ h=>h.elim)) (by kernel_rfl) (by kernel_rfl) (by kernel_rfl) ?_;iterate 4 (refine ja8 _ rfl (by kernel_rfl) rfl rfl (fun K hK=>?_);go_big_quiet_op;refine hK _ ?_;clear hK K)
 refine jcG _ ((.pointer (some ⟨b,0,none⟩))) rfl (by kernel_rfl) rfl (fun w1=>by kernel_rfl) ?_;simp only[Act.put,sA,sB,sC];iterate 2 (refine ja8 _ rfl (by kernel_rfl) rfl rfl (fun K hK=>?_);go_big_quiet_op;refine hK _ ?_;clear hK K)
 refine jgd ⟨b,1+(p[0]'g0).toNat,none⟩ _ rfl (by kernel_rfl) (by kernel_rfl) rfl rfl (fun w1 h1=>jav (fun w=>by kernel_rfl) (by rw[←HHI.o];exact jat Q1.o (((jac.refl (fun z=>Dk1 (jao p) z∨W1.heap.size≤z) W1).drew).trans h1) (by exact HNF.o))) ?_;simp only[Act.put,sA,sB,sC];iterate 3 (refine ja8 _ rfl (by kernel_rfl) rfl rfl (fun K hK=>?_);go_big_quiet_op;refine hK _ ?_;clear hK K)
 refine jcG _ (.iface 276 (.agg #[])) rfl (by kernel_rfl) rfl (fun w1=>by kernel_rfl) ?_;simp only[Act.put,sA,sB,sC]
 (refine ja8 _ rfl (by kernel_rfl) rfl rfl (fun K hK=>?_);go_big_quiet_op;refine hK _ ?_;clear hK K)
 refine jcG _ ((.pointer (some ⟨b,0,none⟩))) rfl (by kernel_rfl) rfl (fun w1=>by kernel_rfl) ?_;simp only[Act.put,sA,sB,sC]
 (refine ja8 _ rfl (by kernel_rfl) rfl rfl (fun K hK=>?_);go_big_quiet_op;refine hK _ ?_;clear hK K)
 refine jgb _ rfl (by kernel_rfl) rfl (fun wb hb K hK=>?_);have kb:Ext W1 wb:=(jak _).trans hb;refine jby (jcJ (f:=306) (vs:=#[.string (jbx p),.string u]) rfl (juV.put _) (fun args w=>by kernel_rfl) (by kernel_rfl)) ?_;refine (CALLEE.o wb kb).mono ?_;rintro e w2 ⟨v2,rfl,hP2,hk2⟩
 refine⟨v2,rfl,hK _ _ (hk2.mono (fun z _ hz=>.inl hz)) ?_⟩
 have HS:=Hd (And.intro kb (And.intro hP2 hk2));clear hK K hb kb hP2 hk2;simp only[Act.put,sA,sB,sC]
 (refine ja8 _ rfl (by kernel_rfl) rfl rfl (fun K hK=>?_);go_big_quiet_op;refine hK _ ?_;clear hK K)
 refine jgc _ rfl (by kernel_rfl) rfl (fun wc hc K hK=>?_)
 obtain⟨hb,hP2,hk2⟩:=HS.o
 have hb2:=HB.o.keeps (F:=fun _=>False) (hb) (fun _ _ e=>e);have kc:jac (Dk1 (jao p)) wb wc:=hk2.trans (hc.mono (fun _ _ e=>e.elim));have hPc:PaAt (PA.leaf (jbx p) u) v2 (Grow (Dk1 (jao p)) wb wc) wc:=(hP2.keeps hc _ _ _ (fun _ _ e=>e)).mono (fun z hz=>hz.imp id (fun e=>⟨e.1,Nat.lt_of_lt_of_le e.2 hc.size⟩))
 obtain⟨T2,x2,rfl⟩:=hPc.form rfl
 have ht:=hb2.turn HI16.o kc hPc;have htk:=hb2.turn_keeps HI16.o kc (.iface T2 x2)
 obtain⟨old,q7⟩:∃ v,wc.cell? ⟨b,1+jao p,none⟩=some v:=⟨_,(hb2.blk.keeps kc (hb2.kid _ HI16.o).2.1).cellL (List.getElem?_eq_getElem (by rw[jgr];have:=HI16.o;omega))⟩
 have f7:wc.frozen? ⟨b,1+jao p,none⟩=false:=(hb2.blk.keeps kc (hb2.kid _ HI16.o).2.1).frozen;have HT:=Hd (And.intro ht (And.intro htk hb));rw[HHI.o]at q7 f7;clear hb hP2 hk2 hb2 kc hPc ht htk hc;go_simp;refine hK _ _ ?_;clear hK K q7 f7;go_wp2_with fail
 go_ret
 obtain⟨ht,htk,hb⟩:=HT.o
 rw[←HHI.o];have hks:=HKS.o
 refine⟨rfl,PaTo.mk1 (PaAt.mono (fun z hz=>?_) (by rw[←hks];exact ht.pa.at')) ((HK1.o.trans (hb.mono (fun _ _ e=>e.elim))).trans (htk.mono (fun z _ hz=>HD1.o z hz)))⟩
 rcases hz with hz | hz
 ·exact .inl (HD1.o z hz)
 ·exact .inr ⟨Nat.le_trans (Nat.le_trans HK1.o.size hb.size) hz.1,Nat.lt_of_lt_of_le hz.2 (jac.oneSet wc ⟨b,1+jao p,none⟩ (.iface T2 x2)).size⟩
end
section
open Go Go.RowKit
attribute [local go_sem] Oper.semAt_some
def AddP(D:Nat→Prop)(W:World)(b:Nat)(P:PA)(e:Ending)(w':World):Prop:=e=.returned (brV b)∧PaAt P (brV b) (Grow D W w') w'∧jac D W w'
theorem ji0(W:World)(D:Nat→Prop)(v:ByteArray)(ks:Nat→PA)(b:Nat)(h:PaO (.br v ks) (brV b) D W)(p u:ByteArray)(hp:jaL p=true)(hs:p.size≤900000)(hf:∀ x t,p.data.toList=x :: t→(ks x.toNat).isNil=true) :
  Calls Tryz.prog 293 #[.pointer (some ⟨b,0,none⟩),.string p,.string u] W (AddP D W b (addK (.br v ks) p u)):=by
 rw[jcS]
 by_cases h0:p.size=0
 ·rw[if_pos h0,jbF h0]
  refine (jmk W D v u ks b h).mono ?_;rintro e w' ⟨rfl,v',e,h1,h2⟩;injection e with e;subst e
  exact⟨rfl,h1,h2⟩
 ·rw[if_neg h0]
  obtain⟨x,t,hx⟩:=jcp h0
  refine (jmj W D v u ks b h p h0 hp hs (by rw[(jbI hx).1];exact hf x t hx)).mono ?_;rintro e w' ⟨rfl,v',e,h1,h2⟩;injection e with e;subst e
  exact⟨rfl,h1,h2⟩
theorem jtz{W:World}{b:Nat}(h:Blk W b (.cells #[.string ⟨#[]⟩,.nilIface,.nilIface,.nilIface,.nilIface,.nilIface,.nilIface,.nilIface,.nilIface,.nilIface,.nilIface,.nilIface,.nilIface,.nilIface,.nilIface,.nilIface,.nilIface] 274)) :
  BrAt ⟨#[]⟩ (fun _=>.nil) b (fun _=>.nilIface) (fun _ _=>False) (fun x=>x=b) W:=
 ⟨rfl,h,fun i _=>⟨rfl,fun e=>e,fun _ e=>e.elim⟩,fun _ _ _ _ _ _ e=>e.elim,fun x e=>by rw[e];exact h.lt⟩
theorem AddP.br{D:Nat→Prop}{W w':World}{b:Nat}{P:PA}(h:PaAt P (brV b) (Grow D W w') w')(k:jac D W w')(hl:∀ x,D x→x < W.heap.size):PaO P (brV b) (Grow D W w') w':=⟨h,jew hl k⟩
theorem Tryz.enterBput:∀ args w,(callFunc 293 args).run Tryz.prog w=.ok (.enter 293 args) w:=fun _ _=>by kernel_rfl
theorem jqm(W:World)(D:Nat→Prop)(q v u:ByteArray)(b:Nat)(hB:Blk W b (.cells #[.string q,.string v] 267)):Calls Tryz.prog 292 #[.pointer (some ⟨b,0,none⟩),.string q,.string u] W (PaTo D W (.leaf q u)):=by
 have q0:=hB.cell (i:=0) (v:=.string q) (by rfl);clear hB;have heq:(q.toList == q.toList)=true:=by simp
 go_enter Tryz.func292,Tryz.ntmps292;go_wp2_with fail
 go_ret;have hB:=Blk.new W (.cells #[.string q,.string u] 267);exact PaTo.mk1 ⟨_,rfl,.inr ⟨Nat.le_refl _,hB.lt⟩,hB⟩ (((ExtR W).alloc _).mono (fun _ _ e=>e.elim))
theorem jtm(q p v:ByteArray):(∀ x t,(q.extract (jap q p) q.size).data.toList=x :: t→PA.isNil ((fun _=>PA.nil) x.toNat)=true)∧∃ v1 ks1,addK (.br ⟨#[]⟩ fun _=>.nil) (q.extract (jap q p) q.size) v=.br v1 ks1∧∀ x t,(p.extract (jap q p) p.size).data.toList=x :: t→(ks1 x.toNat).isNil=true:=by
 refine⟨fun _ _ _=>rfl,?_⟩
 obtain⟨a',b',ha,hb,ha',hb',hne⟩:=jcL q.data.toList p.data.toList
 have hka:(q.extract (jap q p) q.size).data.toList=a':=by rw[jdL,ha'];rfl
 have hkb:(p.extract (jap q p) p.size).data.toList=b':=by rw[jdL,hb'];rfl
 obtain⟨x1,e1⟩:∃ x,x=q.extract (jap q p) q.size:=⟨_,rfl⟩
 rw[←e1]at hka ⊢;rw[jcS]
 by_cases h0:x1.size=0
 ·rw[if_pos h0];exact⟨_,_,rfl,fun _ _ _=>rfl⟩
 ·rw[if_neg h0]
  refine⟨_,_,rfl,fun y t hy=>?_⟩
  obtain⟨x,s,hx⟩:=jcp h0
  unfold setK;rw[(jbI hx).1,if_neg (jdh (Ne.symm (hne x s y t (by rw[←hka,hx]) (by rw[←hkb,hy]))))];rfl
theorem jod(W:World)(D:Nat→Prop)(q v p u:ByteArray)(b:Nat)(hB:Blk W b (.cells #[.string q,.string v] 267))(hne:p≠q)(hq:jaL q=true)(hp:jaL p=true)(hqs:q.size≤900000)(hps:p.size≤900000) :
  Calls Tryz.prog 292 #[.pointer (some ⟨b,0,none⟩),.string p,.string u] W (PaTo D W (putP (.leaf q v) p u)):=by
 have q0:=hB.cell (i:=0) (v:=.string q) (by rfl);have Q0:=Hd q0;have Q1:=Hd (hB.cell (i:=1) (v:=.string v) (by rfl));have HB:=Hd hB;have heq:(p.toList == q.toList)=false:=by rw[jji];exact decide_eq_false hne
 obtain⟨c1,c2⟩:=jeM q p
 have hput:putP (.leaf q v) p u=jcm (p.extract 0 (jap q p)) (addK (addK (.br ⟨#[]⟩ fun _=>.nil) (q.extract (jap q p) q.size) v) (p.extract (jap q p) p.size) u):=by
  show (if p=q then PA.leaf p u else _)=_;rw[if_neg hne]
 have hfree:=jtm q p v;have hcom:=fun w=>jfd w q p (by omega) (by omega)
 obtain⟨m,hm⟩:∃ m,m=jap q p:=⟨_,rfl⟩
 rw[←hm]at c1 c2 hput hfree hcom;rw[hput];have hs1:(q.extract m q.size).size≤900000:=by rw[ja0];omega
 have hs2:(p.extract m p.size).size≤900000:=by rw[ja0];omega
 have hs3:(p.extract 0 m).size≤900000:=by rw[ByteArray.size_extract];omega
 have hv1:jaL (q.extract m q.size)=true:=jbr hq _ _;have hv2:jaL (p.extract m p.size)=true:=jbr hp _ _
 obtain⟨hf1,v1,ks1,e1,hf2⟩:=hfree
 have hdj:Dp (addK (.br v1 ks1) (p.extract m p.size) u) 1000000:=jhu (by rw[←e1];exact jhu (jg4 _ _) (by omega) _) (by omega) _;have hnj:(addK (.br v1 ks1) (p.extract m p.size) u).isNil=false:=by rw[jcS];split <;> rfl
 rw[e1];have HF:=Hd (And.intro (And.intro hf1 (And.intro e1 hf2)) (And.intro hs1 (And.intro hs2 (And.intro hs3 (And.intro hv1 hv2)))));have HDJ:=Hd (And.intro hdj hnj);have HC:=Hd hcom;have c1':(m:Int)≤(q.size:Int):=by omega
 have c2':(m:Int)≤(p.size:Int):=by omega
 clear hB hne hq hp hput hm hf1 hf2 e1 hdj hnj hs1 hs2 hs3 hv1 hv2 hcom;go_enter Tryz.func292,Tryz.ntmps292;go_wp2_with fail
 refine (HC.o _).mono ?_;rintro e w1 ⟨rfl,n,rfl⟩;go_wp2_with fail
 obtain⟨bb,hbb⟩:∃ bb,bb=W.heap.size:=⟨_,rfl⟩
 obtain⟨W2,hW2⟩:∃ W2,W2=(W.drewN n).alloc (.cells #[.string ⟨#[]⟩,.nilIface,.nilIface,.nilIface,.nilIface,.nilIface,.nilIface,.nilIface,.nilIface,.nilIface,.nilIface,.nilIface,.nilIface,.nilIface,.nilIface,.nilIface,.nilIface] 274):=⟨_,rfl⟩
 have hE2:Ext W W2:=by rw[hW2];exact ((ExtR W).drewN n).alloc _
 have hB2:BrAt ⟨#[]⟩ (fun _=>.nil) bb (fun _=>.nilIface) (fun _ _=>False) (fun x=>x=bb) W2:=by rw[hW2,hbb];exact jtz (Blk.new (W.drewN n) _)
 have hb0:W.heap.size≤bb:=by rw[hbb];exact Nat.le_refl _
 have HE2:=Hd hE2;have HB2:=Hd hB2;have HB0:=Hd hb0;have HNB:=Hd (show ¬ W.heap.size≤b from by have:=HB.o.lt;omega);rw[←hW2, ←hbb];clear hbb hW2 hE2 hB2 hb0;refine ja1 [0,1,2,3,4,5,6,7,8,9,10,11] [11] Ext (jac (fun z=>W.heap.size≤z)) ExtR ExtT (fun x y z h k=>jac.trans h k) (fun x y h=>h.mono (fun _ _ h=>h.elim)) (by kernel_rfl) (by kernel_rfl) (by kernel_rfl) ?_;iterate 2 (refine jai _ rfl (by kernel_rfl) rfl rfl (fun K hK=>?_);go_big_quiet_op;refine hK _ ?_;clear hK K)
 refine jbB _ ((.pointer (some ⟨b,0,none⟩))) rfl (by kernel_rfl) rfl (fun w1 _=>by kernel_rfl) ?_;simp only[Act.put,sA,sB,sC]
 (refine jai _ rfl (by kernel_rfl) rfl rfl (fun K hK=>?_);go_big_quiet_op;refine hK _ ?_;clear hK K)
 refine jaX ⟨b,0,none⟩ _ rfl (by kernel_rfl) rfl rfl (fun w1 h1=>jav (fun w=>by kernel_rfl) (jat (jaa Q0.o HE2.o) (((jac.refl (fun z=>W.heap.size≤z) W2).drew).trans h1) (by exact HNB.o))) ?_;simp only[Act.put,sA,sB,sC];iterate 3 (refine jai _ rfl (by kernel_rfl) rfl rfl (fun K hK=>?_);go_big_quiet_op;refine hK _ ?_;clear hK K)
 refine jbB _ ((.pointer (some ⟨b,0,none⟩))) rfl (by kernel_rfl) rfl (fun w1 _=>by kernel_rfl) ?_;simp only[Act.put,sA,sB,sC]
 (refine jai _ rfl (by kernel_rfl) rfl rfl (fun K hK=>?_);go_big_quiet_op;refine hK _ ?_;clear hK K)
 refine jaX ⟨b,1,none⟩ _ rfl (by kernel_rfl) rfl rfl (fun w1 h1=>jav (fun w=>by kernel_rfl) (jat (jaa Q1.o HE2.o) (((jac.refl (fun z=>W.heap.size≤z) W2).drew).trans h1) (by exact HNB.o))) ?_;simp only[Act.put,sA,sB,sC];refine jaY _ rfl (by kernel_rfl) rfl (fun wb hb K hK=>?_);have kb:Ext W2 wb:=(jak _).trans hb
 obtain⟨hf1,e1,hf2⟩:=HF.o.1
 refine jby (jaA Tryz.enterBput (by kernel_rfl)) ((ji0 wb (fun x=>x=bb) ⟨#[]⟩ (fun _=>.nil) bb ((HB2.o.keeps kb (fun _ _ e=>e)).pa) (q.extract m q.size) v HF.o.2.2.2.2.1 HF.o.2.1 hf1).mono ?_);rintro e w3 ⟨rfl,hP3,hk3⟩
 refine⟨_,rfl,hK _ _ (hk3.mono (fun z _ e=>by have e:z=bb:=e;rw[e];exact HB0.o)) ?_⟩
 rw[e1]at hP3;have HS:=Hd (And.intro kb (And.intro hP3 hk3));clear hK K hb kb hP3 hk3 e1;simp only[Act.put,sA,sB,sC];refine jcd (by kernel_rfl) (fun wc hc=>?_)
 obtain⟨kb,hP3,hk3⟩:=HS.o
 have kc:jac (fun x=>x=bb) wb wc:=hk3.trans (hc.mono (fun _ _ e=>e.elim));have hPc:PaAt (.br v1 ks1) (brV bb) (Grow (fun x=>x=bb) wb wc) wc:=(hP3.keeps hc _ _ _ (fun _ _ e=>e)).mono (fun z hz=>hz.imp id (fun e=>⟨e.1,Nat.lt_of_lt_of_le e.2 hc.size⟩));have hOc:=AddP.br hPc kc (fun x e=>by have e:x=bb:=e;rw[e];exact Nat.lt_of_lt_of_le HB2.o.blk.lt kb.size);have hEc:Ext W wc:=(HE2.o.trans kb).trans' kc (fun x hx e=>by have e:x=bb:=e;have:=HB0.o;omega);have HOC:=Hd (And.intro hOc hEc);have HGR:=Hd (show ∀ x,Grow (fun x=>x=bb) wb wc x→W.heap.size≤x from fun x hx=>hx.elim (fun e=>by rw[e];exact HB0.o) (fun e=>Nat.le_trans (Nat.le_trans HE2.o.size kb.size) e.1));clear hc kb hP3 hk3 kc hPc hOc hEc HS;go_wp2_with fail
 obtain⟨hf1,e1,hf2⟩:=HF.o.1
 refine (ji0 wc _ v1 ks1 bb HOC.o.1 (p.extract m p.size) u HF.o.2.2.2.2.2 HF.o.2.2.1 hf2).mono ?_;rintro e w4 ⟨rfl,hP4,hk4⟩;have hO4:=AddP.br hP4 hk4 HOC.o.1.lt;have hE4:Ext W w4:=HOC.o.2.trans' hk4 (fun x hx e=>by have:=HGR.o x e;omega);have HG4:=Hd (show ∀ x,Grow (Grow (fun x=>x=bb) wb wc) wc w4 x→W.heap.size≤x from fun x hx=>hx.elim (HGR.o x) (fun e=>Nat.le_trans HOC.o.2.size e.1));have HO4:=Hd (And.intro hO4 hE4);clear hP4 hk4 hO4 hE4 e1 hf1 hf2;unfold brV;go_wp2_with fail
 refine (pj_c w4 _ (p.extract 0 m) _ (brV bb) HO4.o.1 HDJ.o.2 (by have:=HF.o.2.2.2.1;omega) HDJ.o.1).mono ?_;rintro e w5 ⟨v5,rfl,hP5,hE5⟩;have HZ:=Hd (And.intro hP5 hE5);clear hP5 hE5;go_wp2_with fail
 go_ret
 obtain⟨hP5,hE5⟩:=HZ.o
 exact PaTo.mk1 (hP5.mono (fun x hx=>.inr ⟨hx.elim (HG4.o x) (fun e=>Nat.le_trans HO4.o.2.size e.1),(jew HO4.o.1.lt hE5) x hx⟩)) ((HO4.o.2.trans hE5).mono (fun _ _ e=>e.elim))
theorem BrAt.give{u:ByteArray}{ks:Nat→PA}{b:Nat}{vk:Nat→Value}{Dk:Nat→Nat→Prop}{D E:Nat→Prop}{W:World}(h:BrAt u ks b vk Dk D W){i:Nat}(hi:i < 16){P:PA}{v:Value}(hP:PaAt P v E W)(hE:∀ x,E x→¬ D x∧x < W.heap.size) :
  BrAt u (setK ks i P) b (setV vk i v) (fun j=>if j=i then E else Dk j) (fun x=>D x∨E x) (W.setCell ⟨b,1+i,none⟩ v):=by
 have K:=jac.oneSet W ⟨b,1+i,none⟩ v;have hB:=h.blk.set_same (i:=1+i) v;rw[jpe u vk hi]at hB
 refine⟨.inl h.mem,hB,fun j hj=>?_,fun j l hj hl hne x hx hx'=>?_,fun x hx=>?_⟩
 ·by_cases e:j=i
  ·subst e
   simp only[if_pos,jco];rw[show setV vk j v j=v from if_pos rfl]
   refine⟨hP.keeps K _ _ _ (fun x hx e=>?_),fun e=>(hE b e).1 h.mem,fun x hx=>.inr hx⟩
   have e:x=b:=e;rw[e]at hx;exact (hE b hx).1 h.mem
  ·simp only[if_neg e]
   rw[jeC _ _ e,show setV vk i v j=vk j from if_neg e]
   refine⟨(h.kid j hj).1.keeps K _ _ _ (fun x hx e=>?_),(h.kid j hj).2.1,fun x hx=>.inl ((h.kid j hj).2.2 x hx)⟩
   have e:x=b:=e;rw[e]at hx;exact (h.kid j hj).2.1 hx
 ·by_cases e:j=i
  ·subst e
   have g1:E x:=by simpa using hx
   have g2:Dk l x:=by simpa [Ne.symm hne]using hx'
   exact (hE x g1).1 ((h.kid l hl).2.2 x g2)
  ·have g1:Dk j x:=by simpa [e]using hx
   by_cases e2:l=i
   ·subst e2
    have g2:E x:=by simpa using hx'
    exact (hE x g2).1 ((h.kid j hj).2.2 x g1)
   ·have g2:Dk l x:=by simpa [e2]using hx'
    exact h.apart j l hj hl hne x g1 g2
 ·rcases hx with hx | hx
  ·exact Nat.lt_of_lt_of_le (h.lt x hx) K.size
  ·exact Nat.lt_of_lt_of_le (hE x hx).2 K.size
theorem Tryz.enterPj:∀ args w,(callFunc 294 args).run Tryz.prog w=.ok (.enter 294 args) w:=fun _ _=>by kernel_rfl
theorem juJ{q:ByteArray}{m:Nat}(h:m < q.size):jao (q.extract m q.size)=(q[m]).toNat:=by
 unfold jao;have hl:m < q.data.toList.length:=by rw[jaR];exact h
 rw[jdL,List.drop_eq_getElem_cons hl];rfl
theorem jux(W:World)(D:Nat→Prop)(q:ByteArray)(n:PA)(T:TypeId)(x:Value)(Dn:Nat→Prop)(b:Nat)(hB:Blk W b (.cells #[.string q,.iface T x] 270))(hv:PaAt n (.iface T x) Dn W)(hbn:¬ Dn b)(hD:∀ x,Dn x→D x∧x < W.heap.size)(p u:ByteArray)(hq:jaL q=true)(hp:jaL p=true)(hqs:q.size≤900000)(hps:p.size≤900000)(hd:Dp n 900000)(hk:PutC n)(hnil:n.isNil=false)(hf:jap q p=q.size) :
  Calls Tryz.prog 298 #[.pointer (some ⟨b,0,none⟩),.string p,.string u] W (PaTo D W (jcm q (putP n (p.extract q.size p.size) u))):=by
 have q0:=hB.cell (i:=0) (v:=.string q) (by rfl);have q1:=hB.cell (i:=1) (v:=.iface T x) (by rfl);have Q0:=Hd q0;have Q1:=Hd q1;have HB:=Hd hB;have HV:=Hd hv;have HD:=Hd (show ∀ z,Dn z→D z∧z < W.heap.size from hD)
 obtain⟨c1,c2⟩:=jeM q p
 have hcom:=fun w=>jfd w q p (by omega) (by omega);rw[hf]at c1 c2 hcom;have HC:=Hd hcom;have hbl:=hB.lt;have HNB:=Hd (show ¬(Dn b∨W.heap.size≤b)from fun e=>e.elim hbn (fun e=>by omega));have hval:jaL (p.extract q.size p.size)=true:=jbr hp _ _;have hsz:(p.extract q.size p.size).size≤900000:=by rw[ja0];omega
 have HM:=Hd hv.meth;have CALLEE:=Hd (show ∀ wb,Ext W wb→Calls Tryz.prog (jjn n) #[x,.string (p.extract q.size p.size),.string u] wb (PaTo Dn wb (putP n (p.extract q.size p.size) u))from fun wb e=>hk wb T x Dn _ _ ⟨hv.keeps e _ _ _ (fun _ _ e=>e),fun z hz=>Nat.lt_of_lt_of_le (hD z hz).2 e.size⟩ hsz hval hd);have HDP:=Hd (show Dp (putP n (p.extract q.size p.size) u) 1000000 from jcl _ _ _ (jmw n 900000 _ u hd hsz) (by omega));have c2':(q.size:Int)≤(p.size:Int):=by omega
 have hqq:((q.size:Int) ==(q.size:Int))=true:=by simp
 clear hB hv hbn hD hq hp hd hk hf hval hsz hcom hbl;go_enter Tryz.func298,Tryz.ntmps298;go_wp2_with fail
 refine (HC.o _).mono ?_;rintro e w1 ⟨rfl,k,rfl⟩;have HKW:=Hd (show jac (fun z=>Dn z∨W.heap.size≤z) W ((W.drewN k).drew)from((jac.refl _ W).drewN k).drew);go_wp2_with fail
 refine ja1 [0,1,2,3,4,5,6,7,8,9,10,11,12,13,14,15,16] [14,15] Ext (jac (fun z=>Dn z∨W.heap.size≤z)) ExtR ExtT (fun x y z h k=>jac.trans h k) (fun x y h=>h.mono (fun _ _ h=>h.elim)) (by kernel_rfl) (by kernel_rfl) (by kernel_rfl) ?_
 (refine jai _ rfl (by kernel_rfl) rfl rfl (fun K hK=>?_);go_big_quiet_op;refine hK _ ?_;clear hK K)
 refine jbB _ ((.pointer (some ⟨b,0,none⟩))) rfl (by kernel_rfl) rfl (fun w1 _=>by kernel_rfl) ?_;simp only[Act.put,sA,sB,sC]
 (refine jai _ rfl (by kernel_rfl) rfl rfl (fun K hK=>?_);go_big_quiet_op;refine hK _ ?_;clear hK K)
 refine jaX ⟨b,0,none⟩ _ rfl (by kernel_rfl) rfl rfl (fun w1 h1=>jav (fun w=>by kernel_rfl) (jat Q0.o (HKW.o.trans h1) (by exact HNB.o))) ?_;simp only[Act.put,sA,sB,sC]
 (refine jai _ rfl (by kernel_rfl) rfl rfl (fun K hK=>?_);go_big_quiet_op;refine hK _ ?_;clear hK K)
 refine jbB _ ((.pointer (some ⟨b,0,none⟩))) rfl (by kernel_rfl) rfl (fun w1 _=>by kernel_rfl) ?_;simp only[Act.put,sA,sB,sC]
 (refine jai _ rfl (by kernel_rfl) rfl rfl (fun K hK=>?_);go_big_quiet_op;refine hK _ ?_;clear hK K)
 refine jaX ⟨b,1,none⟩ _ rfl (by kernel_rfl) rfl rfl (fun w1 h1=>jav (fun w=>by kernel_rfl) (jat Q1.o (HKW.o.trans h1) (by exact HNB.o))) ?_;simp only[Act.put,sA,sB,sC];iterate 4 (refine jai _ rfl (by kernel_rfl) rfl rfl (fun K hK=>?_);go_big_quiet_op;refine hK _ ?_;clear hK K)
 refine jbB _ (.iface T x) rfl (by kernel_rfl) rfl (fun w1 _=>by kernel_rfl) ?_;simp only[Act.put,sA,sB,sC]
 (refine jai _ rfl (by kernel_rfl) rfl rfl (fun K hK=>?_);go_big_quiet_op;refine hK _ ?_;clear hK K)
 refine jaY _ rfl (by kernel_rfl) rfl (fun wb hb K hK=>?_);have kb:Ext W wb:=(((ExtR W).drewN k).drew).trans hb;refine jby (jcJ (f:=jjn n) (vs:=#[.string (p.extract q.size p.size),.string u]) rfl (HM.o.put _) (jhz _) (by kernel_rfl)) ?_;refine (CALLEE.o wb kb).mono ?_;rintro e w2 ⟨v2,rfl,hP2,hk2⟩
 refine⟨v2,rfl,hK _ _ (hk2.mono (fun z _ hz=>.inl hz)) ?_⟩
 have HS:=Hd (And.intro kb (And.intro hP2 hk2));clear hK K hb kb hP2 hk2;simp only[Act.put,sA,sB,sC];refine jaY _ rfl (by kernel_rfl) rfl (fun wc hc K hK=>?_)
 obtain⟨kb,hP2,hk2⟩:=HS.o
 have kc:jac Dn wb wc:=hk2.trans (hc.mono (fun _ _ e=>e.elim));have hPc:PaAt (putP n (p.extract q.size p.size) u) v2 (Grow Dn wb wc) wc:=(hP2.keeps hc _ _ _ (fun _ _ e=>e)).mono (fun z hz=>hz.imp id (fun e=>⟨e.1,Nat.lt_of_lt_of_le e.2 hc.size⟩));have hOc:=PaTo.own hPc kc (fun z hz=>Nat.lt_of_lt_of_le (HD.o z hz).2 kb.size);refine jby (jaA Tryz.enterPj (by kernel_rfl)) ((pj_c wc _ q _ v2 hOc (jhX _ _ _) (by omega) HDP.o).mono ?_);rintro e w5 ⟨v5,rfl,hP5,hE5⟩
 refine⟨v5,rfl,hK _ _ (hE5.mono (fun _ _ e=>e.elim)) ?_⟩
 have HZ:=Hd (And.intro kc (And.intro hP5 (And.intro hE5 (jew hOc.lt hE5))));clear hK K hc kb hP2 hk2 kc hPc hOc hP5 hE5;simp only[Act.put,sA,sB,sC]
 (refine jai _ rfl (by kernel_rfl) rfl rfl (fun K hK=>?_);go_big_quiet_op;refine hK _ ?_;clear hK K)
 refine jcd (by kernel_rfl) (fun wd hd=>?_);have HQ:=Hd hd;clear hd;go_wp2_with fail
 go_ret
 obtain⟨kb,_,_⟩:=HS.o
 obtain⟨kc,hP5,hE5,hl5⟩:=HZ.o
 have hd:=HQ.o;refine PaTo.mk1 ((hP5.keeps hd _ _ _ (fun _ _ e=>e)).mono (fun z hz=>?_)) (((kb.mono (fun _ _ e=>e.elim):jac D W wb).trans (kc.mono (fun z _ hz=>(HD.o z hz).1))).trans ((hE5.trans hd).mono (fun _ _ e=>e.elim)));have hzl:=Nat.lt_of_lt_of_le (hl5 z hz) hd.size;rcases hz with (hz | hz) | hz
 ·exact .inl (HD.o z hz).1
 ·exact .inr ⟨Nat.le_trans kb.size hz.1,hzl⟩
 ·exact .inr ⟨Nat.le_trans (Nat.le_trans kb.size kc.size) hz.1,hzl⟩
theorem jsk(q p:ByteArray)(n:PA)(h:jap q p < q.size):∀ x t,(p.extract (jap q p) p.size).data.toList=x :: t→(setK (fun _=>.nil) (jao (q.extract (jap q p) q.size)) (jcm (q.extract (jap q p+1) q.size) n) x.toNat).isNil=true:=by
 obtain⟨a',b',ha,hb,ha',hb',hne⟩:=jcL q.data.toList p.data.toList
 have hka:(q.extract (jap q p) q.size).data.toList=a':=by rw[jdL,ha'];rfl
 have hkb:(p.extract (jap q p) p.size).data.toList=b':=by rw[jdL,hb'];rfl
 have h0:(q.extract (jap q p) q.size).size≠0:=by rw[ja0];omega
 intro y t hy
 obtain⟨x,s,hx⟩:=jcp h0
 unfold setK;rw[(jbI hx).1,if_neg (jdh (Ne.symm (hne x s y t (by rw[←hka,hx]) (by rw[←hkb,hy]))))];rfl
theorem jsi(W:World)(D:Nat→Prop)(q:ByteArray)(n:PA)(T:TypeId)(x:Value)(Dn:Nat→Prop)(b:Nat)(hB:Blk W b (.cells #[.string q,.iface T x] 270))(hv:PaAt n (.iface T x) Dn W)(hbn:¬ Dn b)(hD:∀ x,Dn x→D x∧x < W.heap.size)(p u:ByteArray)(hq:jaL q=true)(hp:jaL p=true)(hqs:q.size≤900000)(hps:p.size≤900000)(hd:Dp n (900000 - q.size))(hnil:n.isNil=false)(hf:jap q p≠q.size) :
  Calls Tryz.prog 298 #[.pointer (some ⟨b,0,none⟩),.string p,.string u] W (PaTo D W (jcm (p.extract 0 (jap q p)) (addK (.br ⟨#[]⟩ (setK (fun _=>.nil) (jao (q.extract (jap q p) q.size)) (jcm (q.extract (jap q p+1) q.size) n))) (p.extract (jap q p) p.size) u))):=by
 have q0:=hB.cell (i:=0) (v:=.string q) (by rfl);have q1:=hB.cell (i:=1) (v:=.iface T x) (by rfl);have Q0:=Hd q0;have Q1:=Hd q1;have HB:=Hd hB;have HV:=Hd hv;have HD:=Hd (show ∀ z,Dn z→D z∧z < W.heap.size from hD)
 obtain⟨c1,c2⟩:=jeM q p
 have hcom:=fun w=>jfd w q p (by omega) (by omega);have hfree:=jsk q p n (show jap q p < q.size by omega)
 obtain⟨m,hm⟩:∃ m,m=jap q p:=⟨_,rfl⟩
 rw[←hm]at c1 c2 hcom hf hfree ⊢;have HC:=Hd hcom;have hbl:=hB.lt;have HNB:=Hd (show ¬ W.heap.size≤b from by omega);have hlt:m < q.size:=by omega
 have h16:jao (q.extract m q.size) < 16:=jdN (jbr hq _ _) (by rw[ja0];omega);have hhd:=juJ hlt;have HHD:=Hd (And.intro h16 hhd);have HVS:=Hd (And.intro (jbr hp m p.size) (show (p.extract m p.size).size≤900000 by rw[ja0];omega));have HJ0:=Hd (And.intro hnil (And.intro (show (q.extract (m+1) q.size).size≤900000 by rw[ja0];omega) hd));have hdJ:Dp (jcm (q.extract (m+1) q.size) n) (900000 - m - 1):=jfJ (jcl _ _ _ hd (by rw[ja0];omega)) (by rw[ja0];omega);have hdj:Dp (addK (.br ⟨#[]⟩ (setK (fun _=>.nil) (jao (q.extract m q.size)) (jcm (q.extract (m+1) q.size) n))) (p.extract m p.size) u) (900000 - m):=jhu (jhw (jg4 ⟨#[]⟩ _) (by omega) hdJ _) (by rw[ja0];omega) _;have hnj:(addK (.br ⟨#[]⟩ (setK (fun _=>.nil) (jao (q.extract m q.size)) (jcm (q.extract (m+1) q.size) n))) (p.extract m p.size) u).isNil=false:=by rw[jcS];split <;> rfl
 have HDJ:=Hd (And.intro hdj hnj);have HFR:=Hd hfree;have hsz3:(p.extract 0 m).size≤900000:=by rw[ByteArray.size_extract];omega
 have HS3:=Hd hsz3;have c1':(m:Int)≤(q.size:Int):=by omega
 have c2':(m:Int)≤(p.size:Int):=by omega
 have c3':(m:Int) < (q.size:Int):=by omega
 have c4':(m:Int)+1≤(q.size:Int):=by omega
 have c5':((q[m]'hlt).toNat:Int) < 16:=by rw[←hhd];omega
 have hne:((m:Int) ==(q.size:Int))=false:=by simp;omega
 clear hB hv hbn hD hq hp hd hf hcom hbl hfree h16 hhd hdJ hdj hnj hnil hm hsz3;go_enter Tryz.func298,Tryz.ntmps298;go_wp2_with fail
 refine (HC.o _).mono ?_;rintro e w1 ⟨rfl,k,rfl⟩;go_wp2_with fail
 obtain⟨bb,hbb⟩:∃ bb,bb=W.heap.size:=⟨_,rfl⟩
 obtain⟨W2,hW2⟩:∃ W2,W2=(W.drewN k).alloc (.cells #[.string ⟨#[]⟩,.nilIface,.nilIface,.nilIface,.nilIface,.nilIface,.nilIface,.nilIface,.nilIface,.nilIface,.nilIface,.nilIface,.nilIface,.nilIface,.nilIface,.nilIface,.nilIface] 274):=⟨_,rfl⟩
 have hE2:Ext W W2:=by rw[hW2];exact ((ExtR W).drewN k).alloc _
 have hB2:BrAt ⟨#[]⟩ (fun _=>.nil) bb (fun _=>.nilIface) (fun _ _=>False) (fun x=>x=bb) W2:=by rw[hW2,hbb];exact jtz (Blk.new (W.drewN k) _)
 have hb0:W.heap.size≤bb:=by rw[hbb];exact Nat.le_refl _
 have HE2:=Hd hE2;have HB2:=Hd hB2;have HB0:=Hd hb0;rw[←hW2, ←hbb];clear hbb hW2 hE2 hB2 hb0;refine ja1 [0,1,2,3,4,5,6,7,8,9,10,11,12,13,14,15,16,17,19,20,18,21,22] [18,22] Ext (jac (fun z=>W.heap.size≤z)) ExtR ExtT (fun x y z h k=>jac.trans h k) (fun x y h=>h.mono (fun _ _ h=>h.elim)) (by kernel_rfl) (by kernel_rfl) (by kernel_rfl) ?_;iterate 2 (refine jai _ rfl (by kernel_rfl) rfl rfl (fun K hK=>?_);go_big_quiet_op;refine hK _ ?_;clear hK K)
 refine jbB _ ((.pointer (some ⟨b,0,none⟩))) rfl (by kernel_rfl) rfl (fun w1 _=>by kernel_rfl) ?_;simp only[Act.put,sA,sB,sC]
 (refine jai _ rfl (by kernel_rfl) rfl rfl (fun K hK=>?_);go_big_quiet_op;refine hK _ ?_;clear hK K)
 refine jaX ⟨b,0,none⟩ _ rfl (by kernel_rfl) rfl rfl (fun w1 h1=>jav (fun w=>by kernel_rfl) (jat (jaa Q0.o HE2.o) (((jac.refl (fun z=>W.heap.size≤z) W2).drew).trans h1) (by exact HNB.o))) ?_;simp only[Act.put,sA,sB,sC];iterate 3 (refine jai _ rfl (by kernel_rfl) rfl rfl (fun K hK=>?_);go_big_quiet_op;refine hK _ ?_;clear hK K)
 refine jbB _ ((.pointer (some ⟨b,0,none⟩))) rfl (by kernel_rfl) rfl (fun w1 _=>by kernel_rfl) ?_;simp only[Act.put,sA,sB,sC]
 (refine jai _ rfl (by kernel_rfl) rfl rfl (fun K hK=>?_);go_big_quiet_op;refine hK _ ?_;clear hK K)
 refine jaX ⟨b,0,none⟩ _ rfl (by kernel_rfl) rfl rfl (fun w1 h1=>jav (fun w=>by kernel_rfl) (jat (jaa Q0.o HE2.o) (((jac.refl (fun z=>W.heap.size≤z) W2).drew).trans h1) (by exact HNB.o))) ?_;simp only[Act.put,sA,sB,sC];iterate 4 (refine jai _ rfl (by kernel_rfl) rfl rfl (fun K hK=>?_);go_big_quiet_op;refine hK _ ?_;clear hK K)
 refine jbB _ ((.pointer (some ⟨b,0,none⟩))) rfl (by kernel_rfl) rfl (fun w1 _=>by kernel_rfl) ?_;simp only[Act.put,sA,sB,sC]
 (refine jai _ rfl (by kernel_rfl) rfl rfl (fun K hK=>?_);go_big_quiet_op;refine hK _ ?_;clear hK K)
 refine jaX ⟨b,1,none⟩ _ rfl (by kernel_rfl) rfl rfl (fun w1 h1=>jav (fun w=>by kernel_rfl) (jat (jaa Q1.o HE2.o) (((jac.refl (fun z=>W.heap.size≤z) W2).drew).trans h1) (by exact HNB.o))) ?_;simp only[Act.put,sA,sB,sC];refine jbB _ ((.pointer (some ⟨bb,0,none⟩))) rfl (by kernel_rfl) rfl (fun w1 _=>by kernel_rfl) ?_;simp only[Act.put,sA,sB,sC]
 (refine jai _ rfl (by kernel_rfl) rfl rfl (fun K hK=>?_);go_big_quiet_op;refine hK _ ?_;clear hK K)
 refine jaY _ rfl (by kernel_rfl) rfl (fun wb hb K hK=>?_);have kb:Ext W2 wb:=(jak _).trans hb;have kw:Ext W wb:=HE2.o.trans kb;refine jby (jaA Tryz.enterPj (by kernel_rfl)) ((pj_c wb Dn (q.extract (m+1) q.size) n (.iface T x) ⟨HV.o.keeps kw _ _ _ (fun _ _ e=>e),fun z hz=>Nat.lt_of_lt_of_le (HD.o z hz).2 kw.size⟩ HJ0.o.1 (by have:=HJ0.o.2.1;omega) (jcl _ _ _ HJ0.o.2.2 (by omega))).mono ?_);rintro e w3 ⟨v3,rfl,hP3,hE3⟩
 refine⟨v3,rfl,hK _ _ (hE3.mono (fun _ _ e=>e.elim)) ?_⟩
 have HS:=Hd (And.intro kb (And.intro hP3 hE3));clear hK K hb kb hP3 hE3 kw;simp only[Act.put,sA,sB,sC]
 (refine jai _ rfl (by kernel_rfl) rfl rfl (fun K hK=>?_);go_big_quiet_op;refine hK _ ?_;clear hK K)
 refine jaY _ rfl (by kernel_rfl) rfl (fun wc hc K hK=>?_)
 obtain⟨kb,hP3,hE3⟩:=HS.o
 have hPc:=hP3.keeps hc _ _ _ (fun _ _ e=>e);have kc:Ext W2 wc:=(kb.trans hE3).trans hc
 obtain⟨T3,x3,rfl⟩:=hPc.form (jdD HJ0.o.1)
 have hEb:∀ z,Grow Dn wb w3 z→¬ z=bb∧z < wc.heap.size:=fun z hz=>by
  have h1:=HB2.o.lt bb rfl;have h2:=HB0.o;have h3:=kb.size;have h4:=hE3.size;have h5:=hc.size;have h6:=HE2.o.size;rcases hz with hz | hz
  ·have:=(HD.o z hz).2;omega
  ·have:=hz.1;have:=hz.2;omega
 have hg:=(HB2.o.keeps kc (fun _ _ e=>e)).give HHD.o.1 hPc hEb
 obtain⟨old,q7⟩:∃ v,wc.cell? ⟨bb,1+jao (q.extract m q.size),none⟩=some v:=⟨_,(HB2.o.keeps kc (fun _ _ e=>e)).blk.cellL (List.getElem?_eq_getElem (by rw[jgr];have:=HHD.o.1;omega))⟩
 have f7:wc.frozen? ⟨bb,1+jao (q.extract m q.size),none⟩=false:=(HB2.o.keeps kc (fun _ _ e=>e)).blk.frozen
 obtain⟨WW,hWW⟩:∃ WW,WW=wc.setCell ⟨bb,1+jao (q.extract m q.size),none⟩ (.iface T3 x3):=⟨_,rfl⟩
 rw[←hWW]at hg;have hK1:jac (fun z=>z=bb) wc WW:=by rw[hWW];exact jac.oneSet wc ⟨bb,1+jao (q.extract m q.size),none⟩ (.iface T3 x3)
 have HG:=Hd (And.intro hg (And.intro hK1 (And.intro kc (And.intro hEb (show ∀ z,Grow Dn wb w3 z→D z∨W.heap.size≤z from fun z hz=>hz.elim (fun e=>.inl (HD.o z e).1) (fun e=>.inr (Nat.le_trans (Nat.le_trans HE2.o.size kb.size) e.1)))))));rw[HHD.o.2]at q7 f7 hWW;clear kb hP3 hE3 hPc kc hEb hg hc;go_simp;rw[←hWW];refine hK _ _ (hK1.mono (fun z _ e=>by have e:z=bb:=e;rw[e];exact HB0.o)) ?_;clear hK K q7 f7 hWW hK1;refine jcd (by kernel_rfl) (fun wd hd=>?_)
 obtain⟨hg,hK1,kc,hEb,hEw⟩:=HG.o
 have hgd:=hg.keeps hd (fun _ _ e=>e);have HX:=Hd (And.intro hgd (show Ext W wd from((HE2.o.trans kc).trans' hK1 (fun z hz e=>by have e:z=bb:=e;have:=HB0.o;omega)).trans hd));have HY:=Hd (show ∀ z,(z=bb∨Grow Dn wb w3 z)→D z∨W.heap.size≤z from fun z hz=>hz.elim (fun e=>.inr (by rw[e];exact HB0.o)) (hEw z));clear hg hK1 kc hEb hEw hgd hd;go_wp2_with fail
 refine (ji0 wd _ ⟨#[]⟩ _ bb HX.o.1.pa (p.extract m p.size) u HVS.o.1 HVS.o.2 HFR.o).mono ?_;rintro e w4 ⟨rfl,hP4,hk4⟩;have hO4:=AddP.br hP4 hk4 HX.o.1.lt;have hk4':jac D W w4:=(HX.o.2.mono (fun _ _ e=>e.elim)).trans' hk4 (fun z hz e=>by
  rcases HY.o z e with h | h
  ·exact h
  ·omega)
 have HO4:=Hd (And.intro hO4 hk4');clear hP4 hk4 hO4 hk4';unfold brV;go_wp2_with fail
 refine (pj_c w4 _ (p.extract 0 m) _ (brV bb) HO4.o.1 HDJ.o.2 (by have:=HS3.o;omega) (jcl _ _ _ HDJ.o.1 (by omega))).mono ?_;rintro e w5 ⟨v5,rfl,hP5,hE5⟩;have HZ:=Hd (And.intro hP5 hE5);clear hP5 hE5;go_wp2_with fail
 go_ret
 obtain⟨hP5,hE5⟩:=HZ.o
 refine PaTo.mk1 (hP5.mono (fun z hz=>?_)) (HO4.o.2.trans (hE5.mono (fun _ _ e=>e.elim)));have hzl:=jew HO4.o.1.lt hE5 z hz;rcases hz with (hz | hz) | hz
 ·rcases HY.o z hz with h | h
  ·exact .inl h
  ·exact .inr ⟨h,hzl⟩
 ·exact .inr ⟨Nat.le_trans HX.o.2.size hz.1,hzl⟩
 ·exact .inr ⟨Nat.le_trans HO4.o.2.size hz.1,hzl⟩
end
section
open Go Go.RowKit
def VaP:PA→Prop
 | .nil=>True
 | .no=>True
 | .leaf q _=>jaL q=true
 | .ext q n=>jaL q=true∧VaP n
 | .br _ ks=>∀ i,VaP (ks i)
theorem jpn:∀ (P:PA),CanP P→VaP P
 | .nil,h=>h.elim
 | .no,h=>h.elim
 | .leaf q v,h=>h.1
 | .ext q n,h=>⟨h.2.1,jpn n h.2.2.2⟩
 | .br v ks,h=>fun i=>by
  cases hn:(ks i).isNil with
  | true=>rw[jbA hn];trivial
  | false=>exact jpn (ks i) (h.2.1 i hn)
theorem jlU:∀ (P:PA),VaP P→PutC P
 | .nil,_=>fun W T x D p u h _ _ _=>by cases h.at'
 | .no,_=>fun W T x D p u h _ _ _=>by
  have e:Value.iface T x=noV:=h.at';unfold noV at e;injection e with e1 e2;subst e1 e2;exact jqE W D p u
 | .leaf q v,hv=>fun W T x D p u h hp hn hd=>by
  obtain⟨b,e,h1,h2⟩:=h.at'
  unfold jh9 at e;injection e with e1 e2;subst e1 e2
  by_cases hpq:p=q
  ·subst hpq
   show Calls _ _ _ W (PaTo D W (putP (.leaf p v) p u));unfold putP;rw[if_pos rfl];exact jqm W D p v u b h2
  ·exact jod W D q v p u b h2 hpq hv hn hd hp
 | .ext q n,hv=>fun W T x D p u h hp hn hd=>by
  obtain⟨b,T',x',Dn,e,h1,h2,h3,h4,h5⟩:=h.at'
  unfold extV at e;injection e with e1 e2;subst e1 e2;have hnil:n.isNil=false:=by
   cases n with
   | nil=>cases h3
   | _=>rfl
  have hDn:∀ z,Dn z→D z∧z < W.heap.size:=fun z hz=>⟨h5 z hz,h.lt z (h5 z hz)⟩
  by_cases hf:jap q p=q.size
  ·have:=jux W D q n T' x' Dn b h2 h3 h4 hDn p u hv.1 hn hd.1 hp (jcl _ _ _ hd.2 (by omega)) (jlU n hv.2) hnil hf
   show Calls _ _ _ W (PaTo D W (putP (.ext q n) p u));unfold putP;rw[if_pos hf,hf];exact this
  ·have:=jsi W D q n T' x' Dn b h2 h3 h4 hDn p u hv.1 hn hd.1 hp hd.2 hnil hf
   show Calls _ _ _ W (PaTo D W (putP (.ext q n) p u));unfold putP;rw[if_neg hf];exact this
 | .br v ks,hv=>fun W T x D p u h hp hn hd=>by
  obtain⟨b,vk,Dk,e,_⟩:=h.at'
  have e0:=e;unfold brV at e;injection e with e1 e2;subst e1 e2;show Calls _ _ _ W (PaTo D W (putP (.br v ks) p u));unfold putP
  by_cases h0:p.size=0
  ·rw[if_pos h0,jbF h0]
   exact (jmk W D v u ks b h).mono fun e w' h=>h.2
  ·rw[if_neg h0]
   cases hk:(ks (jao p)).isNil with
   | true =>
    rw[jbA hk];exact (jmj W D v u ks b h p h0 hn hp hk).mono fun e w' h=>h.2
   | false =>
    have hdk:=hd (jao p) hk;exact (jrS W D v u ks b h p h0 hn hp hk (jcl _ _ _ hdk.2 (by omega)) (jlU (ks (jao p)) (hv _))).mono fun e w' h=>h.2
end
end Go.Proofs.YtpaacnhboilkkaaGreatDoor
