/- Lemmas; each is under no condition but those that it states. -/
import Derived.Test.YtepbencaoiompaaGreatDoorPa0
import Derived.RangeFuncWrites
import Derived.Lib.Hide
namespace Go.Proofs.YtepbencaoiompaaGreatDoor
set_option linter.unusedSimpArgs false
set_option linter.unusedVariables false
set_option maxRecDepth 100000
set_option maxHeartbeats 16000000
open Go Go.RowKit
section
abbrev BSet:=Nat->Prop
structure jag(F:BSet)(w w':World):Prop where
 os:w'.os=w.os
 tape:w'.tape=w.tape
 output:w'.output=w.output
 size:w.heap.size<=w'.heap.size
 block:∀ b,b < w.heap.size->¬ F b->w'.heap[b]?=w.heap[b]?
theorem jag.refl(F:BSet)(w:vW):jag F w w:=⟨rfl,rfl,rfl,bL _,fun _ _ _=>rfl⟩
theorem jag.trans'{F G:BSet}{a b c:vW}(h:jag F a b)(k:jag G b c)(hG:∀ x,x < a.heap.size->G x->F x):jag F a c:=
 ⟨k.os.trans h.os,k.tape.trans h.tape,k.output.trans h.output,bH h.size k.size,
  fun x e o=>(k.block x (bR e h.size) (fun g=>o (hG x e g))).trans (h.block x e o)⟩
theorem jag.trans{F:BSet}{a b c:vW}(h:jag F a b)(k:jag F b c):jag F a c:=h.trans' k fun _ _ g=>g
theorem jag.mono{F G:BSet}{a b:vW}(h:jag F a b)(hG:∀ x,x < a.heap.size->F x->G x):jag G a b:=
 (jag.refl G a).trans' h hG
theorem jag.alloc{F:BSet}{a b:vW}(h:jag F a b)(o:Obj):jag F a (b.alloc o):=
 h.trans' (G:=fun _=>False) ⟨rfl,rfl,rfl,by simp,fun x e _=>Below.heap_alloc _ _ _ e⟩ (fun _ _ g=>g.elim)
theorem jag.drew{F:BSet}{a b:vW}(h:jag F a b):jag F a b.drew:=⟨h.os,h.tape,h.output,h.size,h.block⟩
theorem jag.setCell{F:BSet}{a b:vW}(h:jag F a b){p:Addr}(hp:F p.block\/a.heap.size<=p.block)(u:vV):jag F a (b.setCell p u):=
 h.trans' (G:=fun x=>x=p.block) ⟨rfl,rfl,rfl,by simp[World.setCell],fun x _ e=>Below.heap_setCell _ _ _ _ e⟩ (fun x e g=>by
  subst g;rcases hp with hp | hp
  ·exact hp
  ·omega)
theorem jag.putObj{F:BSet}{a b:vW}(h:jag F a b){r:Nat}(hp:F r\/a.heap.size<=r)(o:Obj):jag F a (b.putObj r o):=
 h.trans' (G:=fun x=>x=r) ⟨rfl,rfl,rfl,by simp,fun x _ e=>World.putObj_heap_other e⟩ (fun x e g=>by
  subst g;rcases hp with hp | hp
  ·exact hp
  ·omega)
theorem jag.onePut(w:vW)(r:Nat)(o:Obj):jag (fun b=>b=r) w (w.putObj r o):=(jag.refl (fun b=>b=r) w).putObj (r:=r) (.inl (Eq.refl r)) o
theorem jag.oneSet(w:vW)(p:Addr)(u:vV):jag (fun b=>b=p.block) w (w.setCell p u):=(jag.refl (fun b=>b=p.block) w).setCell (p:=p) (.inl (Eq.refl p.block)) u
theorem jag.of_below{F:BSet}{a b:vW}(h:Below a.heap.size a b):jag F a b:=
 ⟨h.os,h.tape,h.output,h.size,fun x e _=>h.block x e⟩
theorem jag.of_grown{F:BSet}{a b:vW}{row:Option Nat}(h:a.grownBy b row)(hr:∀ r,row=some r->r < a.heap.size->F r):jag F a b:=
 ⟨h.os,h.tape,h.output,h.size,fun x o q=>h.block x o (fun e=>q (hr x e.symm o))⟩
abbrev Ext(w w':vW):Prop:=jag (fun _=>False) w w'
def vR(f:FuncId)(a:Array vV)(w:vW)(v:vV):Prop:=vQ f a w fun e w'=>e=.returned v/\Ext w w'
def Blk(w:vW)(b:Nat)(o:Obj):Prop:=w.heap[b]?=some o
theorem Blk.lt{w:vW}{b:Nat}{o:Obj}(h:Blk w b o):b < w.heap.size:=(dK.1 h).1
theorem Blk.cell{w:vW}{b i:Nat}{c:Array vV}{T:TypeId}{fz:Nat × Nat}{v:vV}(h:Blk w b (.cells c T fz))(hi:c[i]?=some v):w.cell? ⟨b,i,none⟩=some v:=by
 simp[World.cell?,show w.heap[b]?=_ from h,hi]
theorem Blk.frozen{w:vW}{b i:Nat}{c:Array vV}{T:TypeId}(h:Blk w b (.cells c T (0,0))):w.frozen? ⟨b,i,none⟩=false:=by
 simp[World.frozen?,show w.heap[b]?=_ from h]
theorem Blk.new(w:vW)(o:Obj):Blk (w.alloc o) w.heap.size o:=World.alloc_heap_new w o
theorem Blk.alloc{w:vW}{b:Nat}{o:Obj}(h:Blk w b o)(o':Obj):Blk (w.alloc o') b o:=(Below.heap_alloc w o' b h.lt).trans h
theorem Blk.drew{w:vW}{b:Nat}{o:Obj}(h:Blk w b o):Blk w.drew b o:=h
theorem Blk.keeps{F:BSet}{w w':vW}{b:Nat}{o:Obj}(h:Blk w b o)(k:jag F w w')(hF:¬ F b):Blk w' b o:=(k.block b h.lt hF).trans h
theorem Blk.set_other{w:vW}{b:Nat}{o:Obj}(h:Blk w b o){p:Addr}(hp:b≠p.block)(u:vV):Blk (w.setCell p u) b o:=(Below.heap_setCell w p u b hp).trans h
theorem Blk.set_same{w:vW}{b i:Nat}{c:Array vV}{T:TypeId}{fz:Nat × Nat}(h:Blk w b (.cells c T fz))(u:vV):Blk (w.setCell ⟨b,i,none⟩ u) b (.cells (c.setIfInBounds i u) T fz):=by
 simp only[Blk,World.setCell,Array.getElem?_modify];simp[show w.heap[b]?=_ from h]
theorem Blk.put_other{w:vW}{b r:Nat}{o:Obj}(h:Blk w b o)(hr:b≠r)(o':Obj):Blk (w.putObj r o') b o:=(World.putObj_heap_other hr).trans h
theorem Blk.put_same{w:vW}{b:Nat}{o:Obj}(h:Blk w b o)(o':Obj):Blk (w.putObj b o') b o':=World.putObj_heap_same h.lt
theorem Blk.uniq{w:vW}{b:Nat}{o o':Obj}(h:Blk w b o)(h':Blk w b o'):o=o':=by
 have e:w.heap[b]?=some o:=h;rw[show w.heap[b]?=some o' from h']at e;simpa using e.symm
theorem Blk.setCells{b:Nat}{T:TypeId}{fz:Nat × Nat}:∀ (vs:List vV) (o:Nat) (w:vW) (c:List vV),Blk w b (.cells c.toArray T fz)->o+vs.length<=c.length ->
  Blk (w.setCells b o vs) b (.cells (c.take o++vs++c.drop (o+vs.length)).toArray T fz)
 | [],o,w,c,h,_=>by simpa [World.setCells]using h
 | v :: r,o,w,c,h,hl=>by
  simp only[bO]at hl;have e:=h.set_same (i:=o) v;have z:(c.toArray.setIfInBounds o v)=(c.set o v).toArray:=by simp
  rw[z]at e;have q:=Blk.setCells r (o+1) _ _ e (by simp;omega);simp only[World.setCells];have A:(c.set o v).take (o+1)=c.take o++[v]:=by
   rw[cS (by simp;omega),List.take_set_of_le (bL o)]
   simp
  have E:(c.set o v).drop (o+1+r.length)=c.drop (o+(v :: r).length):=by
   rw[List.drop_set_of_lt vO]
   congr 1;simp;omega
  rw[A,E]at q;simpa using q
theorem jag.oneSetCells(b:Nat):∀ (vs:List vV) (o:Nat) (w:vW),jag (fun x=>x=b) w (w.setCells b o vs)
 | [],_,w=>jag.refl _ w
 | v :: r,o,w=>(jag.oneSet w ⟨b,o,none⟩ v).trans (jag.oneSetCells b r (o+1) _)
theorem Blk.cellL{w:vW}{b i:Nat}{c:List vV}{T:TypeId}{fz:Nat × Nat}{v:vV}(h:Blk w b (.cells c.toArray T fz))(hi:c[i]?=some v):w.cell? ⟨b,i,none⟩=some v:=
 h.cell (by simpa using hi)
theorem jbJ{α β:Type}{f:α->β}:∀ {l:List α},(l.map f).Nodup->∀ {x y:α},x∈l->y∈l->f x=f y->x=y
 | [],_,_,_,hx,_,_=>by cases hx
 | z :: r,h,x,y,hx,hy,e=>by
  simp only[bV,fA]at h;rcases bM.1 hx with hx1 | hx1
  ·rcases bM.1 hy with hy1 | hy1
   ·rw[hx1,hy1]
   ·exact absurd (bI.2 ⟨y,hy1,by rw[<-e,hx1]⟩) h.1
  ·rcases bM.1 hy with hy1 | hy1
   ·exact absurd (bI.2 ⟨x,hx1,by rw[e,hy1]⟩) h.1
   ·exact jbJ h.2 hx1 hy1 e
theorem jiY{α:Type}[BEq α][LawfulBEq α]{l m:List α}(hl:l.Nodup)(hm:m.Nodup)(h:∀ a,a∈l↔a∈m):l.Perm m:=by
 rw[List.perm_iff_count];intro a;have o:=List.nodup_iff_count.1 hl a;have q:=List.nodup_iff_count.1 hm a
 by_cases ha:a∈l
 ·have:=gG.2 ha
  have:=gG.2 ((h a).1 ha)
  omega
 ·rw[List.count_eq_zero.2 ha,List.count_eq_zero.2 (fun e=>ha ((h a).2 e))]
section maps
structure ja6(P:Program)(kt:TypeId)(K:Type)[DecidableEq K] where
 κ:K->vV
 desc:TypeDesc
 und:P.underlying kt=some desc
 same:∀ a b,Instr.sameNow desc (κ a) (κ b)=some (decide (a=b))
 check:∀ e a w,(Instr.checkKey e 10000 kt (κ a)).run P w=.ok () w
 bits:∀ a,Instr.sameBits 10000 (κ a) (κ a)=true
variable {P:Program} {kt:TypeId} {K:Type} [DecidableEq K]
abbrev Ent(K:Type):=K × vV × Nat
def ja6.mk1(E:ja6 P kt K)(x:Ent K):MapEntry:={ key:=E.κ x.1,val:=x.2.1,born:=x.2.2 }
def ja6.arr(E:ja6 P kt K)(l:List (Ent K)):Array MapEntry:=(l.map E.mk1).toArray
def jaS(l:List (Ent K))(k:K):Option vV:=(l.find? (fun x=>decide (k=x.1))).map (·.2.1)
def jbo(l:List (Ent K))(k:K)(v:vV)(n:Nat):List (Ent K):=
 match l with
 | []=>[(k,v,n)]
 | x :: r=>if k=x.1 then (k,v,x.2.2) :: r else x :: jbo r k v n
def jef(l:List (Ent K))(k:K):List (Ent K):=
 match l with
 | []=>[]
 | x :: r=>if k=x.1 then r else x :: jef r k
theorem ja6.findNow(E:ja6 P kt K)(k:K):∀ (l:List (Ent K)) (i:Nat),
  Instr.findNow E.desc (E.κ k) (l.map E.mk1) i=some ((l.findIdx? (fun x=>decide (k=x.1))).bind fun j=>(l[j]?).map fun x=>(i+j,x.2.1))
 | [],i=>rfl
 | x :: r,i=>by
  simp only[bV,Instr.findNow,ja6.mk1,E.same,gS]
  by_cases h:k=x.1
  ·simp[h]
  ·simp only[h,decide_false,ja6.findNow E k r (i+1)]
   cases hj:r.findIdx? (fun x=>decide (k=x.1))with
   | none=>simp
   | some j=>simp[Nat.add_assoc,gO 1 j]
theorem jgg(E:ja6 P kt K)(k:K)(l:List (Ent K))(w:vW) :
  (Instr.findKey kt (E.κ k) (E.arr l).toList).run P w=.ok ((l.findIdx? (fun x=>decide (k=x.1))).bind fun j=>(l[j]?).map fun x=>(j,x.2.1)) w:=by
 simp[Instr.findKey,ja6.arr,bS,Result.andThen,run_underlying E.und,E.findNow k l 0]
theorem jjU(l:List (Ent K))(k:K):jaS l k=(l.findIdx? (fun x=>decide (k=x.1))).bind fun j=>(l[j]?).map (·.2.1):=by
 induction l with
 | nil=>rfl
 | cons x r ih =>
  simp only[jaS,fT,gS]
  by_cases h:k=x.1
  ·simp[h]
  ·simp only[h,decide_false]
   simp only[jaS]at ih;rw[ih];cases r.findIdx? (fun x=>decide (k=x.1)) <;> simp
theorem jcg(E:ja6 P kt K){t e:TypeId}(ht:P.underlying t=some (.map kt e)){w:vW}{b:Nat}{l:List (Ent K)}{clock:Nat}
  (hb:Blk w b (.map (E.arr l) clock)) {z:vV} (hz:(zeroValue e).run P w=.ok z w) (k:K) (ok:Bool) :
  (Instr.lookup t (.map (some b)) (E.κ k) ok).run P w=.ok (if ok then .tuple #[(jaS l k).getD z,.bool (jaS l k).isSome]else (jaS l k).getD z) w:=by
 have A:(getObj b).run P w=.ok (.map (E.arr l) clock) w:=by simp[getObj,Sem.run,show w.heap[b]?=_ from hb]
 have o:=jgg E k l w;simp only[Instr.lookup,bS,Result.andThen,run_underlying ht,A,E.check,o];rw[jjU];cases hj:l.findIdx? (fun x=>decide (k=x.1))with
 | none=>rw[hj]at o;cases ok <;> simp[bS,Result.andThen,hz,o]
 | some j =>
  obtain⟨q,_⟩:=List.findIdx?_eq_some_iff_getElem.1 hj
  rw[hj]at o;cases ok <;> simp[bS,Result.andThen,q,o]
theorem ja6.modify(E:ja6 P kt K)(k:K)(v:vV)(n:Nat):∀ (l:List (Ent K)) (j:Nat),l.findIdx? (fun x=>decide (k=x.1))=some j ->
  ((l.map E.mk1).toArray.modify j fun e=>{ e with key:=E.κ k,val:=v })=E.arr (jbo l k v n)
 | [],j,h=>by simp at h
 | x :: r,j,h=>by
  rw[gS]at h
  by_cases hk:k=x.1
  ·simp only[hk,decide_true,if_true,Option.some.injEq]at h
   subst h;simp[ja6.arr,jbo,hk,ja6.mk1,List.modify_toArray]
  ·simp only[hk,decide_false,cO,if_false,cV]at h
   obtain⟨i,o,rfl⟩:=h
   have:=ja6.modify E k v n r i o
   simp only[ja6.arr,List.modify_toArray]at this;simp only[ja6.arr,jbo,hk,if_false,bV,List.modify_toArray,List.modify_succ_cons];simpa using this
theorem jb5(E:ja6 P kt K){t e:TypeId}(ht:P.underlying t=some (.map kt e)){w:vW}{b:Nat}{l:List (Ent K)}{clock:Nat}
  (hb:Blk w b (.map (E.arr l) clock)) (k:K) (v:vV) :
  (Instr.mapUpdate t (.map (some b)) (E.κ k) v).run P w=.ok () (w.putObj b (.map (E.arr (jbo l k v clock)) (if (jaS l k).isSome then clock else clock+1))):=by
 have Q:(getObj b).run P w=.ok (.map (E.arr l) clock) w:=by simp[getObj,Sem.run,show w.heap[b]?=_ from hb]
 have A:∀ o,(setObj b o).run P w=.ok () (w.putObj b o):=by intro o;simp[setObj,Sem.run,show w.heap[b]?=_ from hb,World.putObj]
 have X:=jgg E k l w;simp only[Instr.mapUpdate,bS,Result.andThen,run_underlying ht,Q,E.check,X];rw[jjU];cases hj:l.findIdx? (fun x=>decide (k=x.1))with
 | none =>
  have Z:(E.arr l).push { key:=E.κ k,val:=v,born:=clock }=E.arr (jbo l k v clock):=by
   have:∀ l:List (Ent K),l.findIdx? (fun x=>decide (k=x.1))=none->jbo l k v clock=l++[(k,v,clock)]:=by
    intro l;induction l with
    | nil=>intro _;rfl
    | cons x r ih =>
     intro h;rw[gS]at h
     by_cases hk:k=x.1
     ·simp[hk]at h
     ·simp only[hk,decide_false,cO,if_false,Option.map_eq_none_iff]at h
      simp[jbo,hk,ih h]
   rw[this l hj];simp[ja6.arr,ja6.mk1]
  simp[A,Z]
 | some j =>
  obtain⟨q,H,_⟩:=List.findIdx?_eq_some_iff_getElem.1 hj
  have J:k=l[j].1:=by simpa using H
  have O:=ja6.modify E k v clock l j hj;have z:(((E.arr l)[j]?).map (·.key)).getD (E.κ k)=E.κ k:=by simp[ja6.arr,q,ja6.mk1, <-J]
  simp only[Option.bind_some,bA q,fZ,Option.isSome_some,if_true];simp only[bS,Result.andThen,z,Instr.keyThatStays,E.bits,if_true];simp only[ja6.arr]at O A ⊢;rw[<-O];simp[Sem.run,A]
theorem jrl(E:ja6 P kt K){t e:TypeId}(ht:P.underlying t=some (.map kt e)){w:vW}{b:Nat}{l:List (Ent K)}{clock:Nat}
  (hb:Blk w b (.map (E.arr l) clock)) (k:K) (kt' r:TypeId) :
  (Builtin.delete_ #[t,kt'] r #[.map (some b),E.κ k]).run P w=.ok (.tuple #[]) (w.putObj b (.map (E.arr (jef l k)) clock)):=by
 have A:(getObj b).run P w=.ok (.map (E.arr l) clock) w:=by simp[getObj,Sem.run,show w.heap[b]?=_ from hb]
 have z:∀ o,(setObj b o).run P w=.ok () (w.putObj b o):=by intro o;simp[setObj,Sem.run,show w.heap[b]?=_ from hb,World.putObj]
 have H:=jgg E k l w;have J:∀ l:List (Ent K),l.findIdx? (fun x=>decide (k=x.1))=none->jef l k=l:=by
  intro l;induction l with
  | nil=>intro _;rfl
  | cons x r ih =>
   intro h;rw[gS]at h
   by_cases hk:k=x.1
   ·simp[hk]at h
   ·simp only[hk,decide_false,cO,if_false,Option.map_eq_none_iff]at h
    simp[jef,hk,ih h]
 have O:∀ (l:List (Ent K)) (j:Nat),l.findIdx? (fun x=>decide (k=x.1))=some j->l.eraseIdx j=jef l k:=by
  intro l;induction l with
  | nil=>intro j h;simp at h
  | cons x r ih =>
   intro j h;rw[gS]at h
   by_cases hk:k=x.1
   ·simp only[hk,decide_true,if_true,Option.some.injEq]at h
    subst h;simp[jef,hk]
   ·simp only[hk,decide_false,cO,if_false,cV]at h
    obtain⟨i,Q,rfl⟩:=h
    simp[jef,hk,ih i Q]
 simp only[Builtin.delete_,bS,Result.andThen,run_underlying ht,List.getElem?_toArray,List.getElem?_cons_zero,List.getElem?_cons_succ,A,E.check,H];cases hj:l.findIdx? (fun x=>decide (k=x.1))with
 | none=>simp[z,J l hj,Sem.run,bS,Result.andThen]
 | some j =>
  obtain⟨q,_⟩:=List.findIdx?_eq_some_iff_getElem.1 hj
  have X:(E.arr l).eraseIdxIfInBounds j=E.arr (jef l k):=by
   rw[<-O l j hj];have Z:∀ (l:List (Ent K)) (j:Nat),(l.map E.mk1).eraseIdx j=(l.eraseIdx j).map E.mk1:=by
    intro l;induction l with
    | nil=>intro j;rfl
    | cons x r ih=>intro j;cases j with
     | zero=>rfl
     | succ j=>simp[ih j]
   simp[ja6.arr,Array.eraseIdxIfInBounds,q,Z]
  simp[q,z,X,Sem.run,bS,Result.andThen]
theorem ji8(E:ja6 P kt K){t e:TypeId}(ht:P.underlying t=some (.map kt e)){w:vW}{b:Nat}{l:List (Ent K)}{clock:Nat}(hb:Blk w b (.map (E.arr l) clock))(r:TypeId) :
  (Builtin.len_ #[t] r #[.map (some b)]).run P w=.ok (.int .i64 l.length) w:=by
 have o:(getObj b).run P w=.ok (.map (E.arr l) clock) w:=by simp[getObj,Sem.run,show w.heap[b]?=_ from hb]
 simp[Builtin.len_,bS,Result.andThen,run_underlying ht,o,ja6.arr,goInt]
def jaX(l:List (Ent K))(seen:Array Nat):List (Ent K):=l.filter fun x => !seen.contains x.2.2
theorem jnj(E:ja6 P kt K){t e:TypeId}(ht:P.underlying t=some (.map kt e)){w:vW}{b:Nat}{l:List (Ent K)}{clock:Nat}(hb:Blk w b (.map (E.arr l) clock)) :
  (Instr.range t (.map (some b))).run P w=.ok (.pointer (some ⟨w.heap.size,0,none⟩)) (w.alloc (.mapIter (some b) clock #[] clock)):=by
 have o:(getObj b).run P w=.ok (.map (E.arr l) clock) w:=by simp[getObj,Sem.run,show w.heap[b]?=_ from hb]
 simp[Instr.range,bS,Result.andThen,run_underlying ht,o]
theorem jpW(E:ja6 P kt K){w:vW}{b r:Nat}{l:List (Ent K)}{clock:Nat}{seen:Array Nat}(hb:Blk w b (.map (E.arr l) clock))
  (hr:Blk w r (.mapIter (some b) clock seen clock)) (hlt:∀ x∈l,x.2.2 < clock) (T:TypeId) :
  (jaX l seen=[]/\(Instr.next (.pointer (some ⟨r,0,none⟩)) false T).run P w=.ok (.tuple #[.bool false]) w) \/
  (∃ x∈jaX l seen,∃ w',(Instr.next (.pointer (some ⟨r,0,none⟩)) false T).run P w=.ok (.tuple #[.bool true,E.κ x.1,x.2.1]) w' /\
   Blk w' r (.mapIter (some b) clock (seen.push x.2.2) clock)/\jag (fun z=>z=r) w w'):=by
 have hg:∀ q,Blk q b (.map (E.arr l) clock)->(getObj b).run P q=.ok (.map (E.arr l) clock) q:=fun q hb=>by simp[getObj,Sem.run,show q.heap[b]?=_ from hb]
 have Z:(getObj r).run P w=.ok (.mapIter (some b) clock seen clock) w:=by simp[getObj,Sem.run,show w.heap[r]?=_ from hr]
 have H:(!seen.isEmpty && !(E.arr l).isEmpty && (E.arr l).all (fun x=>decide (x.born ≥ clock)))=false:=by
  cases l with
  | nil=>simp[ja6.arr]
  | cons x rest =>
   have:=hlt x (bD ..)
   have h2:(E.arr (x :: rest)).all (fun x=>decide (x.born ≥ clock))=false:=by
    rw[cU];intro hc;rw[Array.all_eq_true_iff_forall_mem]at hc
    have:=hc (E.mk1 x) (by simp[ja6.arr])
    simp[ja6.mk1]at this;omega
   rw[h2];simp
 have A:(E.arr l).filter (fun e => !seen.contains e.born)=E.arr (jaX l seen):=by
  simp only[ja6.arr,jaX,List.filter_toArray,List.filter_map];rfl
 have J:(E.arr (jaX l seen)).filter (fun x=>decide (x.born < clock))=E.arr (jaX l seen):=by
  simp only[ja6.arr,List.filter_toArray,List.filter_map]
  congr 2
  rw[List.filter_eq_self];intro x hx
  have:x∈l:=(cN.1 hx).1
  exact decide_eq_true (hlt x this)
 have O:(E.arr (jaX l seen)).filter (fun x=>decide (x.born ≥ clock))=#[]:=by
  simp only[ja6.arr,List.filter_toArray,List.filter_map]
  have:(jaX l seen).filter ((fun x=>decide (x.born ≥ clock)) ∘ E.mk1)=[]:=by
   rw[gX];intro x hx;have h1:x∈l:=(cN.1 hx).1;have h2:=hlt x h1;show ¬ decide (x.2.2 ≥ clock)=true;simp only[ge_iff_le,decide_eq_true_eq];omega
  rw[this];rfl
 by_cases h0:jaX l seen=[]
 ·left
  refine⟨h0,?_⟩
  simp only[Instr.next,bS,Result.andThen,Z,hg w hb,H,cO,if_false,A,J,O,h0];simp[ja6.arr,choose,Sem.run,Question.forced,bS,Result.andThen]
 ·right
  have hs:∀ q o,Blk q r (.mapIter (some b) clock seen clock)->(setObj r o).run P q=.ok () (q.putObj r o):=by
   intro q o h;simp[setObj,Sem.run,show q.heap[r]?=_ from h,World.putObj]
  have a1:(E.arr (jaX l seen)).isEmpty=false:=by
   simp only[ja6.arr,List.isEmpty_toArray,List.isEmpty_map];cases hh:jaX l seen with
   | nil=>exact absurd hh h0
   | cons _ _=>rfl
  have Q:0 < (jaX l seen).length:=gC.2 h0;have X:∀ (i:Nat) (hi:i < (jaX l seen).length) (q:vW),Blk q r (.mapIter (some b) clock seen clock) ->
    Sem.run P (match (#[]++(E.arr (jaX l seen)++#[]).map some)[i]? with
     | some (some e)=>do setObj r (.mapIter (some b) clock (seen.push e.born) clock);pure (Value.tuple #[.bool true,e.key,e.val])
     | some none=>pure (Value.tuple #[.bool false])
     | none=>stuck "Next: no such candidate") q =
    .ok (.tuple #[.bool true,E.κ (jaX l seen)[i].1,(jaX l seen)[i].2.1]) (q.putObj r (.mapIter (some b) clock (seen.push (jaX l seen)[i].2.2) clock)):=by
   intro i hi q a2;have e1:(#[]++(E.arr (jaX l seen)++#[]).map some)[i]?=some (some (E.mk1 (jaX l seen)[i])):=by
    simp[ja6.arr,hi]
   rw[e1];simp[bS,Result.andThen,hs q _ a2,ja6.mk1,Sem.run]
  have a0:(#[]++(E.arr (jaX l seen)++#[]).map some).size=(jaX l seen).length:=by simp[ja6.arr]
  simp only[Instr.next,bS,Result.andThen,Z,hg w hb,H,cO,if_false,A,J,O,a1]
  by_cases h1:(jaX l seen).length<=1
  ·refine⟨(jaX l seen)[0],dY _,_,?_,hr.put_same _,jag.onePut w r _⟩
   have hp:=X 0 Q w hr;simp only[choose,Sem.run,Question.forced,a0,h1,decide_true,if_true];exact hp
  ·have hi:w.tape w.drawn (.mapNext (jaX l seen).length) % (jaX l seen).length < (jaX l seen).length:=Nat.mod_lt _ Q
   refine⟨(jaX l seen)[w.tape w.drawn (.mapNext (jaX l seen).length) % (jaX l seen).length],dY _,_,?_,hr.drew.put_same _,((jag.refl _ w).drew).trans (jag.onePut w.drew r _)⟩
   have hp:=X _ hi w.drew hr;simp only[choose,Sem.run,Question.forced,a0,h1,decide_false,cO,if_false,Question.cut];exact hp
theorem jni(E:ja6 P kt K){w:vW}{b r:Nat}{l:List (Ent K)}{clock since:Nat}{seen:Array Nat}(hb:Blk w b (.map (E.arr l) clock))
  {x:Ent K} (o:x∈l) (hr:Blk w r (.mapIter (some b) since (seen.push x.2.2) clock)) (hnd:(l.map (·.2.2)).Nodup) :
  (Instr.entry (.pointer (some ⟨r,0,none⟩))).run P w=.ok (.tuple #[E.κ x.1,x.2.1]) w:=by
 have O:(getObj b).run P w=.ok (.map (E.arr l) clock) w:=by simp[getObj,Sem.run,show w.heap[b]?=_ from hb]
 have q:(getObj r).run P w=.ok (.mapIter (some b) since (seen.push x.2.2) clock) w:=by simp[getObj,Sem.run,show w.heap[r]?=_ from hr]
 have Q:(E.arr l).find? (fun e=>e.born == x.2.2)=some (E.mk1 x):=by
  have:∀ l:List (Ent K),x∈l->(l.map (·.2.2)).Nodup->(l.map E.mk1).find? (fun e=>e.born == x.2.2)=some (E.mk1 x):=by
   intro l;induction l with
   | nil=>intro h;cases h
   | cons y r ih =>
    intro o A;simp only[bV,fA]at A;rw[bV,fT];rcases bM.1 o with rfl | o
    ·simp[ja6.mk1]
    ·have H:y.2.2≠x.2.2:=fun e=>A.1 (e ▸ jB (f:=fun z:Ent K=>z.2.2) o)
     have J:((E.mk1 y).born == x.2.2)=false:=by simpa [ja6.mk1]using H
     rw[J];exact ih o A.2
  simpa [ja6.arr]using this l o hnd
 simp[Instr.entry,bS,Result.andThen,q,O,Q,ja6.mk1]
end maps
theorem jsd{P:Program}{kt:TypeId}(h:P.underlying kt=some .string)(e:Bool)(a:vB)(w:vW)(n:Nat) :
  (Instr.checkKey e (n+1) kt (.string a)).run P w=.ok () w:=by
 simp[Instr.checkKey,bS,Result.andThen,run_underlying h]
theorem jhN(a b:vB):(a == b)=decide (a=b):=by
 show ByteArray.beq a b=_;cases a;cases b;simp only[ByteArray.beq,ByteArray.mk.injEq];rw[iU];simp
theorem jva(a:vB)(n:Nat):Instr.sameBits n (.string a) (.string a)=true:=by
 cases n <;> simp[Instr.sameBits,jhN]
theorem jv7(w:vW)(T:TypeId)(news:List vV):∀ j u,news[j]?=some u->(w.alloc (.cells news.toArray T)).cell? ((⟨w.heap.size,0,none⟩:Addr).add j)=some u:=by
 intro j u e;rw[Addr.add_lit,cR];exact (Blk.new w (.cells news.toArray T)).cellL e
theorem jmT{v:vV}(h:v.oneCell'=true):v.cells=#[v]:=by
 cases v <;> first | rfl |(simp[Value.oneCell']at h)
theorem jjc{P:Program}(a:Addr)(W:vW)(v:vV):(storeCells a [v]).run P W=(store a v).run P W:=by
 have e:a.add 0=a:=by unfold Addr.add;simp
 simp only[storeCells,bS,e];cases (store a v).run P W <;> rfl
theorem jaL{w:vW}{e:TypeId}{size:Nat}{v:vV}{n:Nat}{xs:List vV}{B:Nat}(h:w.ownsRow B e size v n xs):∃ a c,v=.slice a n c:=by
 obtain⟨_,⟨e,rfl⟩ |⟨g,c,_,e,_⟩⟩:=h
 ·exact⟨none,0,e⟩
 ·exact⟨_,c,e⟩
section append
variable {P:Program} (w:vW)
theorem jep{t ty e:TypeId}{i:TypeInfo}{z:vV}{size bytes:Nat}(ht:P.underlying t=some (.slice e))(hi:P.info? e=some i)(hz:i.zero=some z)
  (hsize:i.size=size) (hby:i.bytes=bytes) (hzs:z.cells.size=size) (hsz:0 < size)
  {v:vV} {n:Nat} {xs:List vV} (hown:w.ownsRow 0 e size v n xs)
  {a:Addr} {m c:Nat} {news:List vV} (hl:news.length=m * size) (hnews:∀ j u,news[j]?=some u->w.cell? (a.add j)=some u) (K:∀ u∈news,u.oneCell'=true)
  (h63:n+m<=maxLen) (hbytes:(n+m) * bytes<=140737488355328) :
  ∃ o w',(Builtin.append_ #[t,t] ty #[v,.slice (some a) m c]).run P w=.ok o w'/\w'.ownsRow 0 e size o (n+m) (xs++news)/\jag (fun b=>v.ownBlock=some b) w w' /\
   (o.ownBlock=v.ownBlock\/∀ b,o.ownBlock=some b->w.heap.size<=b):=by
 have up:∀ {B:Nat} {w':vW} {o:vV} {k:Nat} {J:List vV},w'.ownsRow B e size o k J->w'.ownsRow 0 e size o k J:=by
  rintro B w' o k J ⟨K,h2 |⟨g,q,O,h2,_,h3⟩⟩
  ·exact⟨K,.inl h2⟩
  ·exact⟨K,.inr ⟨g,q,O,h2,bY _,h3⟩⟩
 have lo:∀ {B:Nat} {w':vW} {o:vV} {k:Nat} {J:List vV},w'.ownsRow B e size o k J->∀ b,o.ownBlock=some b->B<=b:=by
  intro B w' o k J h b hb;exact (World.ownsRow.lt h b hb).1
 have A:=hown
 obtain⟨Q,⟨rfl,rfl⟩ |⟨g,q,O,rfl,_,hg,a0,a1,a2,a3⟩⟩:=hown
 ·obtain⟨o,w',X,E,Z,_⟩:=run_append_own (P:=P) w w.heap.size t ty e i z size bytes ht hi hz hsize hby hzs hsz (.slice none 0 0) 0 xs ⟨Q,.inl ⟨rfl,rfl⟩⟩ a m c news hl hnews K h63 hbytes (bL _)
  exact⟨o,w',X,up E,jag.of_grown Z (fun r e _=>e),.inr (lo E)⟩
 ·by_cases hroom:n+m<=q
  ·obtain⟨w',X,E,Z⟩:=run_append_fits (P:=P) w 0 t ty e i size ht hi hsize g n q xs A a m c news hl hnews K hroom
   exact⟨_,w',X,E,jag.of_grown Z (fun r e _=>e),.inl rfl⟩
  ·have H:∀ j u,xs[j]?=some u->w.cell? ((⟨g,0,none⟩:Addr).add j)=some u:=World.ownsRow.cells A rfl
   obtain⟨o,w',X,E,Z⟩:=run_append_arg_grows (P:=P) w t ty e i z size bytes ht hi hz hsize hby hzs hsz ⟨g,0,none⟩ n q xs Q H a m c news hl hnews vO h63 hbytes
   exact⟨o,w',X,up E,jag.of_grown Z (fun r e _=>by cases e),.inr (lo E)⟩
theorem jcC{ops:Array Oper}{rest:List Oper}{o:Oper}{a:Act}{Q:Exit->Act->vW->Prop}(hgd:o.guard=none)(s x:Operand)(t:TypeId)
  (ho:o.op=.call { callee:=.builtin .append,args:=#[s,x],argTypes:=#[t,t] })
  (e:TypeId) (i:TypeInfo) (z:vV) (size bytes:Nat) (ht:P.underlying t=some (.slice e)) (hi:P.info? e=some i) (hz:i.zero=some z)
  (hsize:i.size=size) (hby:i.bytes=bytes) (hzs:z.cells.size=size) (hsz:0 < size)
  (v:vV) (n:Nat) (xs:List vV) (hs:a.eval s=v) (hown:w.ownsRow 0 e size v n xs)
  (ad:Addr) (m c:Nat) (news:List vV) (hx:a.eval x=.slice (some ad) m c) (hl:news.length=m * size) (hnews:∀ j u,news[j]?=some u->w.cell? (ad.add j)=some u) (h1:∀ u∈news,u.oneCell'=true)
  (h63:n+m<=maxLen) (hbytes:(n+m) * bytes<=140737488355328)
  (h:∀ q w',w'.ownsRow 0 e size q (n+m) (xs++news)->jag (fun b=>v.ownBlock=some b) w w'->(q.ownBlock=v.ownBlock\/∀ b,q.ownBlock=some b->w.heap.size<=b)->wpList P ops Q rest (a.put o.dst q) w'):wpList P ops Q (o :: rest) a w:=by
 refine wpList_plain hgd fun K E=>?_
 obtain⟨q,w',A,H,J,O⟩:=jep (P:=P) w (t:=t) (ty:=o.type) ht hi hz hsize hby hzs hsz hown (c:=c) hl hnews h1 h63 hbytes
 unfold Oper.wp;simp[execOp,ho,resolve,invoke,builtin,hs,hx,A,Result.andThen];exact E _ _ (h q w' H J O)
theorem jbU{F:Fence}{nf:Nat}{ops:Array Oper}{rest:List Oper}{o:Oper}{a:Act}{Q:Exit->Act->vW->Prop}(hgd:o.guard=none)(s x:Operand)(t:TypeId)
  (ho:o.op=.call { callee:=.builtin .append,args:=#[s,x],argTypes:=#[t,t] })
  (e:TypeId) (i:TypeInfo) (z:vV) (size bytes:Nat) (ht:P.underlying t=some (.slice e)) (hi:P.info? e=some i) (hz:i.zero=some z)
  (hsize:i.size=size) (hby:i.bytes=bytes) (hzs:z.cells.size=size) (hsz:0 < size)
  (v:vV) (n:Nat) (xs:List vV) (hs:a.eval s=v) (hown:w.ownsRow 0 e size v n xs)
  (ad:Addr) (m c:Nat) (news:List vV) (hx:a.eval x=.slice (some ad) m c) (hl:news.length=m * size) (hnews:∀ j u,news[j]?=some u->w.cell? (ad.add j)=some u) (h1:∀ u∈news,u.oneCell'=true)
  (h63:n+m<=maxLen) (hbytes:(n+m) * bytes<=140737488355328)
  (h:∀ q w',w'.ownsRow 0 e size q (n+m) (xs++news)->jag (fun b=>v.ownBlock=some b) w w'->(q.ownBlock=v.ownBlock\/∀ b,q.ownBlock=some b->w.heap.size<=b)->wpListIn F nf P ops Q rest (a.put o.dst q) w'):wpListIn F nf P ops Q (o :: rest) a w:=by
 refine wpListIn_plain hgd fun K H=>?_
 obtain⟨q,w',A,J,O,X⟩:=jep (P:=P) w (t:=t) (ty:=o.type) ht hi hz hsize hby hzs hsz hown (c:=c) hl hnews h1 h63 hbytes
 have E:o.semAt F.round a.eval=execOp a.eval o:=by
  cases hr:F.round with
  | none=>rfl
  | some l=>exact Oper.semAt_some l _ o (by rw[ho];intro c Z;cases Z)
 unfold Oper.wpIn;rw[E]
 refine⟨fun f hf=>?_,?_⟩
 ·simp[Oper.about,ho,resolve,Target.leads]at hf
 ·simp[execOp,ho,resolve,invoke,builtin,hs,hx,A,Result.andThen,Oper.uponIn]
  exact H _ _ (h q w' J O X)
end append
def str(l:vN):vV:=.string ⟨l.toArray⟩
theorem jr7(a b:vN):((⟨a.toArray⟩:vB) ==⟨b.toArray⟩)=decide (a=b):=by
 rw[jhN];simp
def jAy{P:Program}{kt:TypeId}(h:P.underlying kt=some .string):ja6 P kt (vN) where
 κ:=str
 desc:=.string
 und:=h
 same:=fun a b=>by simp only[Instr.sameNow,str,jr7]
 check:=fun e a w=>jsd h e _ w 9999
 bits:=fun a=>jva _ 10000
end
end Go.Proofs.YtepbencaoiompaaGreatDoor
