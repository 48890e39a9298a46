/- Lemmas; each is under no condition but those that it states. -/
import Derived.Test.YtcpnjmcipainpaaGreatDoorPr0
import Derived.RangeFuncWrites
import Derived.Lib.Hide
namespace Go.Proofs.YtcpnjmcipainpaaGreatDoor
set_option linter.unusedSimpArgs false
set_option linter.unusedVariables false
set_option maxRecDepth 100000
set_option maxHeartbeats 16000000
open Go Go.RowKit
section
abbrev BSet:=Nat->Prop
structure jae(F:BSet)(w w':World):Prop where
 os:w'.os=w.os
 tape:w'.tape=w.tape
 output:w'.output=w.output
 size:w.heap.size<=w'.heap.size
 block:∀ b,b < w.heap.size->¬ F b->w'.heap[b]?=w.heap[b]?
theorem jae.refl(F:BSet)(w:World):jae F w w:=⟨rfl,rfl,rfl,Nat.le_refl _,fun _ _ _=>rfl⟩
theorem jae.trans'{F G:BSet}{a b c:World}(h:jae F a b)(k:jae G b c)(hG:∀ x,x < a.heap.size->G x->F x):jae F a c:=
 ⟨k.os.trans h.os,k.tape.trans h.tape,k.output.trans h.output,Nat.le_trans h.size k.size,
  fun x hx hF=>(k.block x (Nat.lt_of_lt_of_le hx h.size) (fun g=>hF (hG x hx g))).trans (h.block x hx hF)⟩
theorem jae.trans{F:BSet}{a b c:World}(h:jae F a b)(k:jae F b c):jae F a c:=h.trans' k fun _ _ g=>g
theorem jae.mono{F G:BSet}{a b:World}(h:jae F a b)(hG:∀ x,x < a.heap.size->F x->G x):jae G a b:=
 (jae.refl G a).trans' h hG
theorem jae.alloc{F:BSet}{a b:World}(h:jae F a b)(o:Obj):jae F a (b.alloc o):=
 h.trans' (G:=fun _=>False) ⟨rfl,rfl,rfl,by simp,fun x hx _=>Below.heap_alloc _ _ _ hx⟩ (fun _ _ g=>g.elim)
theorem jae.drew{F:BSet}{a b:World}(h:jae F a b):jae F a b.drew:=⟨h.os,h.tape,h.output,h.size,h.block⟩
theorem jae.setCell{F:BSet}{a b:World}(h:jae F a b){p:Addr}(hp:F p.block\/a.heap.size<=p.block)(u:Value):jae F a (b.setCell p u):=
 h.trans' (G:=fun x=>x=p.block) ⟨rfl,rfl,rfl,by simp[World.setCell],fun x _ hx=>Below.heap_setCell _ _ _ _ hx⟩ (fun x hx g=>by
  subst g;rcases hp with hp | hp
  ·exact hp
  ·omega)
theorem jae.putObj{F:BSet}{a b:World}(h:jae F a b){r:Nat}(hp:F r\/a.heap.size<=r)(o:Obj):jae F a (b.putObj r o):=
 h.trans' (G:=fun x=>x=r) ⟨rfl,rfl,rfl,by simp,fun x _ hx=>World.putObj_heap_other hx⟩ (fun x hx g=>by
  subst g;rcases hp with hp | hp
  ·exact hp
  ·omega)
theorem jae.onePut(w:World)(r:Nat)(o:Obj):jae (fun b=>b=r) w (w.putObj r o):=(jae.refl (fun b=>b=r) w).putObj (r:=r) (.inl (Eq.refl r)) o
theorem jae.oneSet(w:World)(p:Addr)(u:Value):jae (fun b=>b=p.block) w (w.setCell p u):=(jae.refl (fun b=>b=p.block) w).setCell (p:=p) (.inl (Eq.refl p.block)) u
theorem jae.of_below{F:BSet}{a b:World}(h:Below a.heap.size a b):jae F a b:=
 ⟨h.os,h.tape,h.output,h.size,fun x hx _=>h.block x hx⟩
theorem jae.of_grown{F:BSet}{a b:World}{row:Option Nat}(h:a.grownBy b row)(hr:∀ r,row=some r->r < a.heap.size->F r):jae F a b:=
 ⟨h.os,h.tape,h.output,h.size,fun x hx hF=>h.block x hx (fun e=>hF (hr x e.symm hx))⟩
abbrev Ext(w w':World):Prop:=jae (fun _=>False) w w'
def vR(f:FuncId)(a:Array Value)(w:World)(v:Value):Prop:=vQ f a w fun e w'=>e=.returned v/\Ext w w'
def Blk(w:World)(b:Nat)(o:Obj):Prop:=w.heap[b]?=some o
theorem Blk.lt{w:World}{b:Nat}{o:Obj}(h:Blk w b o):b < w.heap.size:=(Array.getElem?_eq_some_iff.1 h).1
theorem Blk.cell{w:World}{b i:Nat}{c:Array Value}{T:TypeId}{fz:Nat × Nat}{v:Value}(h:Blk w b (.cells c T fz))(hi:c[i]?=some v):w.cell? ⟨b,i,none⟩=some v:=by
 simp[World.cell?,show w.heap[b]?=_ from h,hi]
theorem Blk.frozen{w:World}{b i:Nat}{c:Array Value}{T:TypeId}(h:Blk w b (.cells c T (0,0))):w.frozen? ⟨b,i,none⟩=false:=by
 simp[World.frozen?,show w.heap[b]?=_ from h]
theorem Blk.new(w:World)(o:Obj):Blk (w.alloc o) w.heap.size o:=World.alloc_heap_new w o
theorem Blk.alloc{w:World}{b:Nat}{o:Obj}(h:Blk w b o)(o':Obj):Blk (w.alloc o') b o:=(Below.heap_alloc w o' b h.lt).trans h
theorem Blk.drew{w:World}{b:Nat}{o:Obj}(h:Blk w b o):Blk w.drew b o:=h
theorem Blk.keeps{F:BSet}{w w':World}{b:Nat}{o:Obj}(h:Blk w b o)(k:jae F w w')(hF:¬ F b):Blk w' b o:=(k.block b h.lt hF).trans h
theorem Blk.set_other{w:World}{b:Nat}{o:Obj}(h:Blk w b o){p:Addr}(hp:b≠p.block)(u:Value):Blk (w.setCell p u) b o:=(Below.heap_setCell w p u b hp).trans h
theorem Blk.set_same{w:World}{b i:Nat}{c:Array Value}{T:TypeId}{fz:Nat × Nat}(h:Blk w b (.cells c T fz))(u:Value):Blk (w.setCell ⟨b,i,none⟩ u) b (.cells (c.setIfInBounds i u) T fz):=by
 simp only[Blk,World.setCell,Array.getElem?_modify];simp[show w.heap[b]?=_ from h]
theorem Blk.put_other{w:World}{b r:Nat}{o:Obj}(h:Blk w b o)(hr:b≠r)(o':Obj):Blk (w.putObj r o') b o:=(World.putObj_heap_other hr).trans h
theorem Blk.put_same{w:World}{b:Nat}{o:Obj}(h:Blk w b o)(o':Obj):Blk (w.putObj b o') b o':=World.putObj_heap_same h.lt
theorem Blk.uniq{w:World}{b:Nat}{o o':Obj}(h:Blk w b o)(h':Blk w b o'):o=o':=by
 have e:w.heap[b]?=some o:=h;rw[show w.heap[b]?=some o' from h']at e;simpa using e.symm
theorem Blk.setCells{b:Nat}{T:TypeId}{fz:Nat × Nat}:∀ (vs:List Value) (o:Nat) (w:World) (c:List Value),Blk w b (.cells c.toArray T fz)->o+vs.length<=c.length ->
  Blk (w.setCells b o vs) b (.cells (c.take o++vs++c.drop (o+vs.length)).toArray T fz)
 | [],o,w,c,h,_=>by simpa [World.setCells]using h
 | v :: r,o,w,c,h,hl=>by
  simp only[List.length_cons]at hl;have h1:=h.set_same (i:=o) v;have h2:(c.toArray.setIfInBounds o v)=(c.set o v).toArray:=by simp
  rw[h2]at h1;have h3:=Blk.setCells r (o+1) _ _ h1 (by simp;omega);simp only[World.setCells];have e1:(c.set o v).take (o+1)=c.take o++[v]:=by
   rw[List.take_succ_eq_append_getElem (by simp;omega),List.take_set_of_le (Nat.le_refl o)]
   simp
  have e2:(c.set o v).drop (o+1+r.length)=c.drop (o+(v :: r).length):=by
   rw[List.drop_set_of_lt vO]
   congr 1;simp;omega
  rw[e1,e2]at h3;simpa using h3
theorem jae.oneSetCells(b:Nat):∀ (vs:List Value) (o:Nat) (w:World),jae (fun x=>x=b) w (w.setCells b o vs)
 | [],_,w=>jae.refl _ w
 | v :: r,o,w=>(jae.oneSet w ⟨b,o,none⟩ v).trans (jae.oneSetCells b r (o+1) _)
theorem Blk.cellL{w:World}{b i:Nat}{c:List Value}{T:TypeId}{fz:Nat × Nat}{v:Value}(h:Blk w b (.cells c.toArray T fz))(hi:c[i]?=some v):w.cell? ⟨b,i,none⟩=some v:=
 h.cell (by simpa using hi)
theorem jbD{α β:Type}{f:α->β}:∀ {l:List α},(l.map f).Nodup->∀ {x y:α},x∈l->y∈l->f x=f y->x=y
 | [],_,_,_,hx,_,_=>by cases hx
 | z :: r,h,x,y,hx,hy,e=>by
  simp only[List.map_cons,List.nodup_cons]at h;rcases List.mem_cons.1 hx with hx1 | hx1
  ·rcases List.mem_cons.1 hy with hy1 | hy1
   ·rw[hx1,hy1]
   ·exact absurd (List.mem_map.2 ⟨y,hy1,by rw[<-e,hx1]⟩) h.1
  ·rcases List.mem_cons.1 hy with hy1 | hy1
   ·exact absurd (List.mem_map.2 ⟨x,hx1,by rw[e,hy1]⟩) h.1
   ·exact jbD h.2 hx1 hy1 e
theorem jh3{α:Type}[BEq α][LawfulBEq α]{l m:List α}(hl:l.Nodup)(hm:m.Nodup)(h:∀ a,a∈l↔a∈m):l.Perm m:=by
 rw[List.perm_iff_count];intro a;have c1:=List.nodup_iff_count.1 hl a;have c2:=List.nodup_iff_count.1 hm a
 by_cases ha:a∈l
 ·have:=List.count_pos_iff.2 ha
  have:=List.count_pos_iff.2 ((h a).1 ha)
  omega
 ·rw[List.count_eq_zero.2 ha,List.count_eq_zero.2 (fun h'=>ha ((h a).2 h'))]
section maps
structure ja3(P:Program)(kt:TypeId)(K:Type)[DecidableEq K] where
 κ:K->Value
 desc:TypeDesc
 und:P.underlying kt=some desc
 same:∀ a b,Instr.sameNow desc (κ a) (κ b)=some (decide (a=b))
 check:∀ e a w,(Instr.checkKey e 10000 kt (κ a)).run P w=.ok () w
 bits:∀ a,Instr.sameBits 10000 (κ a) (κ a)=true
variable {P:Program} {kt:TypeId} {K:Type} [DecidableEq K]
abbrev Ent(K:Type):=K × Value × Nat
def ja3.mk1(E:ja3 P kt K)(x:Ent K):MapEntry:={ key:=E.κ x.1,val:=x.2.1,born:=x.2.2 }
def ja3.arr(E:ja3 P kt K)(l:List (Ent K)):Array MapEntry:=(l.map E.mk1).toArray
def jaX(l:List (Ent K))(k:K):Option Value:=(l.find? (fun x=>decide (k=x.1))).map (·.2.1)
def jbn(l:List (Ent K))(k:K)(v:Value)(n:Nat):List (Ent K):=
 match l with
 | []=>[(k,v,n)]
 | x :: r=>if k=x.1 then (k,v,x.2.2) :: r else x :: jbn r k v n
def jdF(l:List (Ent K))(k:K):List (Ent K):=
 match l with
 | []=>[]
 | x :: r=>if k=x.1 then r else x :: jdF r k
theorem ja3.findNow(E:ja3 P kt K)(k:K):∀ (l:List (Ent K)) (i:Nat),
  Instr.findNow E.desc (E.κ k) (l.map E.mk1) i=some ((l.findIdx? (fun x=>decide (k=x.1))).bind fun j=>(l[j]?).map fun x=>(i+j,x.2.1))
 | [],i=>rfl
 | x :: r,i=>by
  simp only[List.map_cons,Instr.findNow,ja3.mk1,E.same,List.findIdx?_cons]
  by_cases h:k=x.1
  ·simp[h]
  ·simp only[h,decide_false,ja3.findNow E k r (i+1)]
   cases hj:r.findIdx? (fun x=>decide (k=x.1))with
   | none=>simp
   | some j=>simp[Nat.add_assoc,Nat.add_comm 1 j]
theorem jfB(E:ja3 P kt K)(k:K)(l:List (Ent K))(w:World) :
  (Instr.findKey kt (E.κ k) (E.arr l).toList).run P w=.ok ((l.findIdx? (fun x=>decide (k=x.1))).bind fun j=>(l[j]?).map fun x=>(j,x.2.1)) w:=by
 simp[Instr.findKey,ja3.arr,Sem.run_bind,Result.andThen,run_underlying E.und,E.findNow k l 0]
theorem jiP(l:List (Ent K))(k:K):jaX l k=(l.findIdx? (fun x=>decide (k=x.1))).bind fun j=>(l[j]?).map (·.2.1):=by
 induction l with
 | nil=>rfl
 | cons x r ih =>
  simp only[jaX,List.find?_cons,List.findIdx?_cons]
  by_cases h:k=x.1
  ·simp[h]
  ·simp only[h,decide_false]
   simp only[jaX]at ih;rw[ih];cases r.findIdx? (fun x=>decide (k=x.1)) <;> simp
theorem jcF(E:ja3 P kt K){t e:TypeId}(ht:P.underlying t=some (.map kt e)){w:World}{b:Nat}{l:List (Ent K)}{clock:Nat}
  (hb:Blk w b (.map (E.arr l) clock)) {z:Value} (hz:(zeroValue e).run P w=.ok z w) (k:K) (ok:Bool) :
  (Instr.lookup t (.map (some b)) (E.κ k) ok).run P w=.ok (if ok then .tuple #[(jaX l k).getD z,.bool (jaX l k).isSome]else (jaX l k).getD z) w:=by
 have hg:(getObj b).run P w=.ok (.map (E.arr l) clock) w:=by simp[getObj,Sem.run,show w.heap[b]?=_ from hb]
 have hf:=jfB E k l w;simp only[Instr.lookup,Sem.run_bind,Result.andThen,run_underlying ht,hg,E.check,hf];rw[jiP];cases hj:l.findIdx? (fun x=>decide (k=x.1))with
 | none=>rw[hj]at hf;cases ok <;> simp[Sem.run_bind,Result.andThen,hz,hf]
 | some j =>
  obtain⟨hlt,_⟩:=List.findIdx?_eq_some_iff_getElem.1 hj
  rw[hj]at hf;cases ok <;> simp[Sem.run_bind,Result.andThen,hlt,hf]
theorem ja3.modify(E:ja3 P kt K)(k:K)(v:Value)(n:Nat):∀ (l:List (Ent K)) (j:Nat),l.findIdx? (fun x=>decide (k=x.1))=some j ->
  ((l.map E.mk1).toArray.modify j fun e=>{ e with key:=E.κ k,val:=v })=E.arr (jbn l k v n)
 | [],j,h=>by simp at h
 | x :: r,j,h=>by
  rw[List.findIdx?_cons]at h
  by_cases hk:k=x.1
  ·simp only[hk,decide_true,if_true,Option.some.injEq]at h
   subst h;simp[ja3.arr,jbn,hk,ja3.mk1,List.modify_toArray]
  ·simp only[hk,decide_false,Bool.false_eq_true,if_false,Option.map_eq_some_iff]at h
   obtain⟨i,hi,rfl⟩:=h
   have:=ja3.modify E k v n r i hi
   simp only[ja3.arr,List.modify_toArray]at this;simp only[ja3.arr,jbn,hk,if_false,List.map_cons,List.modify_toArray,List.modify_succ_cons];simpa using this
theorem jci(E:ja3 P kt K){t e:TypeId}(ht:P.underlying t=some (.map kt e)){w:World}{b:Nat}{l:List (Ent K)}{clock:Nat}
  (hb:Blk w b (.map (E.arr l) clock)) (k:K) (v:Value) :
  (Instr.mapUpdate t (.map (some b)) (E.κ k) v).run P w=.ok () (w.putObj b (.map (E.arr (jbn l k v clock)) (if (jaX l k).isSome then clock else clock+1))):=by
 have hg:(getObj b).run P w=.ok (.map (E.arr l) clock) w:=by simp[getObj,Sem.run,show w.heap[b]?=_ from hb]
 have hs:∀ o,(setObj b o).run P w=.ok () (w.putObj b o):=by intro o;simp[setObj,Sem.run,show w.heap[b]?=_ from hb,World.putObj]
 have hf:=jfB E k l w;simp only[Instr.mapUpdate,Sem.run_bind,Result.andThen,run_underlying ht,hg,E.check,hf];rw[jiP];cases hj:l.findIdx? (fun x=>decide (k=x.1))with
 | none =>
  have hp:(E.arr l).push { key:=E.κ k,val:=v,born:=clock }=E.arr (jbn l k v clock):=by
   have:∀ l:List (Ent K),l.findIdx? (fun x=>decide (k=x.1))=none->jbn l k v clock=l++[(k,v,clock)]:=by
    intro l;induction l with
    | nil=>intro _;rfl
    | cons x r ih =>
     intro h;rw[List.findIdx?_cons]at h
     by_cases hk:k=x.1
     ·simp[hk]at h
     ·simp only[hk,decide_false,Bool.false_eq_true,if_false,Option.map_eq_none_iff]at h
      simp[jbn,hk,ih h]
   rw[this l hj];simp[ja3.arr,ja3.mk1]
  simp[hs,hp]
 | some j =>
  obtain⟨hlt,hpk,_⟩:=List.findIdx?_eq_some_iff_getElem.1 hj
  have hkk:k=l[j].1:=by simpa using hpk
  have hm:=ja3.modify E k v clock l j hj;have hkey:(((E.arr l)[j]?).map (·.key)).getD (E.κ k)=E.κ k:=by simp[ja3.arr,hlt,ja3.mk1, <-hkk]
  simp only[Option.bind_some,List.getElem?_eq_getElem hlt,Option.map_some,Option.isSome_some,if_true];simp only[Sem.run_bind,Result.andThen,hkey,Instr.keyThatStays,E.bits,if_true];simp only[ja3.arr]at hm hs ⊢;rw[<-hm];simp[Sem.run,hs]
theorem jo0(E:ja3 P kt K){t e:TypeId}(ht:P.underlying t=some (.map kt e)){w:World}{b:Nat}{l:List (Ent K)}{clock:Nat}
  (hb:Blk w b (.map (E.arr l) clock)) (k:K) (kt' r:TypeId) :
  (Builtin.delete_ #[t,kt'] r #[.map (some b),E.κ k]).run P w=.ok (.tuple #[]) (w.putObj b (.map (E.arr (jdF l k)) clock)):=by
 have hg:(getObj b).run P w=.ok (.map (E.arr l) clock) w:=by simp[getObj,Sem.run,show w.heap[b]?=_ from hb]
 have hs:∀ o,(setObj b o).run P w=.ok () (w.putObj b o):=by intro o;simp[setObj,Sem.run,show w.heap[b]?=_ from hb,World.putObj]
 have hf:=jfB E k l w;have h0:∀ l:List (Ent K),l.findIdx? (fun x=>decide (k=x.1))=none->jdF l k=l:=by
  intro l;induction l with
  | nil=>intro _;rfl
  | cons x r ih =>
   intro h;rw[List.findIdx?_cons]at h
   by_cases hk:k=x.1
   ·simp[hk]at h
   ·simp only[hk,decide_false,Bool.false_eq_true,if_false,Option.map_eq_none_iff]at h
    simp[jdF,hk,ih h]
 have h1:∀ (l:List (Ent K)) (j:Nat),l.findIdx? (fun x=>decide (k=x.1))=some j->l.eraseIdx j=jdF l k:=by
  intro l;induction l with
  | nil=>intro j h;simp at h
  | cons x r ih =>
   intro j h;rw[List.findIdx?_cons]at h
   by_cases hk:k=x.1
   ·simp only[hk,decide_true,if_true,Option.some.injEq]at h
    subst h;simp[jdF,hk]
   ·simp only[hk,decide_false,Bool.false_eq_true,if_false,Option.map_eq_some_iff]at h
    obtain⟨i,hi,rfl⟩:=h
    simp[jdF,hk,ih i hi]
 simp only[Builtin.delete_,Sem.run_bind,Result.andThen,run_underlying ht,List.getElem?_toArray,List.getElem?_cons_zero,List.getElem?_cons_succ,hg,E.check,hf];cases hj:l.findIdx? (fun x=>decide (k=x.1))with
 | none=>simp[hs,h0 l hj,Sem.run,Sem.run_bind,Result.andThen]
 | some j =>
  obtain⟨hlt,_⟩:=List.findIdx?_eq_some_iff_getElem.1 hj
  have he:(E.arr l).eraseIdxIfInBounds j=E.arr (jdF l k):=by
   rw[<-h1 l j hj];have hm:∀ (l:List (Ent K)) (j:Nat),(l.map E.mk1).eraseIdx j=(l.eraseIdx j).map E.mk1:=by
    intro l;induction l with
    | nil=>intro j;rfl
    | cons x r ih=>intro j;cases j with
     | zero=>rfl
     | succ j=>simp[ih j]
   simp[ja3.arr,Array.eraseIdxIfInBounds,hlt,hm]
  simp[hlt,hs,he,Sem.run,Sem.run_bind,Result.andThen]
theorem jig(E:ja3 P kt K){t e:TypeId}(ht:P.underlying t=some (.map kt e)){w:World}{b:Nat}{l:List (Ent K)}{clock:Nat}(hb:Blk w b (.map (E.arr l) clock))(r:TypeId) :
  (Builtin.len_ #[t] r #[.map (some b)]).run P w=.ok (.int .i64 l.length) w:=by
 have hg:(getObj b).run P w=.ok (.map (E.arr l) clock) w:=by simp[getObj,Sem.run,show w.heap[b]?=_ from hb]
 simp[Builtin.len_,Sem.run_bind,Result.andThen,run_underlying ht,hg,ja3.arr,goInt]
def jaZ(l:List (Ent K))(seen:Array Nat):List (Ent K):=l.filter fun x => !seen.contains x.2.2
theorem jrG(E:ja3 P kt K){t e:TypeId}(ht:P.underlying t=some (.map kt e)){w:World}{b:Nat}{l:List (Ent K)}{clock:Nat}(hb:Blk w b (.map (E.arr l) clock)) :
  (Instr.range t (.map (some b))).run P w=.ok (.pointer (some ⟨w.heap.size,0,none⟩)) (w.alloc (.mapIter (some b) clock #[] clock)):=by
 have hg:(getObj b).run P w=.ok (.map (E.arr l) clock) w:=by simp[getObj,Sem.run,show w.heap[b]?=_ from hb]
 simp[Instr.range,Sem.run_bind,Result.andThen,run_underlying ht,hg]
theorem jtP(E:ja3 P kt K){w:World}{b r:Nat}{l:List (Ent K)}{clock:Nat}{seen:Array Nat}(hb:Blk w b (.map (E.arr l) clock))
  (hr:Blk w r (.mapIter (some b) clock seen clock)) (hlt:∀ x∈l,x.2.2 < clock) (T:TypeId) :
  (jaZ l seen=[]/\(Instr.next (.pointer (some ⟨r,0,none⟩)) false T).run P w=.ok (.tuple #[.bool false]) w) \/
  (∃ x∈jaZ l seen,∃ w',(Instr.next (.pointer (some ⟨r,0,none⟩)) false T).run P w=.ok (.tuple #[.bool true,E.κ x.1,x.2.1]) w' /\
   Blk w' r (.mapIter (some b) clock (seen.push x.2.2) clock)/\jae (fun z=>z=r) w w'):=by
 have hg:∀ w0,Blk w0 b (.map (E.arr l) clock)->(getObj b).run P w0=.ok (.map (E.arr l) clock) w0:=fun w0 hb=>by simp[getObj,Sem.run,show w0.heap[b]?=_ from hb]
 have hgr:(getObj r).run P w=.ok (.mapIter (some b) clock seen clock) w:=by simp[getObj,Sem.run,show w.heap[r]?=_ from hr]
 have hall:(!seen.isEmpty && !(E.arr l).isEmpty && (E.arr l).all (fun x=>decide (x.born ≥ clock)))=false:=by
  cases l with
  | nil=>simp[ja3.arr]
  | cons x rest =>
   have:=hlt x (List.mem_cons_self ..)
   have h2:(E.arr (x :: rest)).all (fun x=>decide (x.born ≥ clock))=false:=by
    rw[Bool.eq_false_iff];intro hc;rw[Array.all_eq_true_iff_forall_mem]at hc
    have:=hc (E.mk1 x) (by simp[ja3.arr])
    simp[ja3.mk1]at this;omega
   rw[h2];simp
 have hleft:(E.arr l).filter (fun e => !seen.contains e.born)=E.arr (jaZ l seen):=by
  simp only[ja3.arr,jaZ,List.filter_toArray,List.filter_map];rfl
 have hold:(E.arr (jaZ l seen)).filter (fun x=>decide (x.born < clock))=E.arr (jaZ l seen):=by
  simp only[ja3.arr,List.filter_toArray,List.filter_map]
  congr 2
  rw[List.filter_eq_self];intro x hx
  have:x∈l:=(List.mem_filter.1 hx).1
  exact decide_eq_true (hlt x this)
 have hnew:(E.arr (jaZ l seen)).filter (fun x=>decide (x.born ≥ clock))=#[]:=by
  simp only[ja3.arr,List.filter_toArray,List.filter_map]
  have:(jaZ l seen).filter ((fun x=>decide (x.born ≥ clock)) ∘ E.mk1)=[]:=by
   rw[List.filter_eq_nil_iff];intro x hx;have h1:x∈l:=(List.mem_filter.1 hx).1;have h2:=hlt x h1;show ¬ decide (x.2.2 ≥ clock)=true;simp only[ge_iff_le,decide_eq_true_eq];omega
  rw[this];rfl
 by_cases h0:jaZ l seen=[]
 ·left
  refine⟨h0,?_⟩
  simp only[Instr.next,Sem.run_bind,Result.andThen,hgr,hg w hb,hall,Bool.false_eq_true,if_false,hleft,hold,hnew,h0];simp[ja3.arr,choose,Sem.run,Question.forced,Sem.run_bind,Result.andThen]
 ·right
  have hs:∀ w0 o,Blk w0 r (.mapIter (some b) clock seen clock)->(setObj r o).run P w0=.ok () (w0.putObj r o):=by
   intro w0 o h;simp[setObj,Sem.run,show w0.heap[r]?=_ from h,World.putObj]
  have hne:(E.arr (jaZ l seen)).isEmpty=false:=by
   simp only[ja3.arr,List.isEmpty_toArray,List.isEmpty_map];cases hh:jaZ l seen with
   | nil=>exact absurd hh h0
   | cons _ _=>rfl
  have hpos:0 < (jaZ l seen).length:=List.length_pos_iff.2 h0;have pick:∀ (i:Nat) (hi:i < (jaZ l seen).length) (w0:World),Blk w0 r (.mapIter (some b) clock seen clock) ->
    Sem.run P (match (#[]++(E.arr (jaZ l seen)++#[]).map some)[i]? with
     | some (some e)=>do setObj r (.mapIter (some b) clock (seen.push e.born) clock);pure (Value.tuple #[.bool true,e.key,e.val])
     | some none=>pure (Value.tuple #[.bool false])
     | none=>stuck "Next: no such candidate") w0 =
    .ok (.tuple #[.bool true,E.κ (jaZ l seen)[i].1,(jaZ l seen)[i].2.1]) (w0.putObj r (.mapIter (some b) clock (seen.push (jaZ l seen)[i].2.2) clock)):=by
   intro i hi w0 h0';have e1:(#[]++(E.arr (jaZ l seen)++#[]).map some)[i]?=some (some (E.mk1 (jaZ l seen)[i])):=by
    simp[ja3.arr,hi]
   rw[e1];simp[Sem.run_bind,Result.andThen,hs w0 _ h0',ja3.mk1,Sem.run]
  have hsz:(#[]++(E.arr (jaZ l seen)++#[]).map some).size=(jaZ l seen).length:=by simp[ja3.arr]
  simp only[Instr.next,Sem.run_bind,Result.andThen,hgr,hg w hb,hall,Bool.false_eq_true,if_false,hleft,hold,hnew,hne]
  by_cases h1:(jaZ l seen).length<=1
  ·refine⟨(jaZ l seen)[0],List.getElem_mem _,_,?_,hr.put_same _,jae.onePut w r _⟩
   have hp:=pick 0 hpos w hr;simp only[choose,Sem.run,Question.forced,hsz,h1,decide_true,if_true];exact hp
  ·have hi:w.tape w.drawn (.mapNext (jaZ l seen).length) % (jaZ l seen).length < (jaZ l seen).length:=Nat.mod_lt _ hpos
   refine⟨(jaZ l seen)[w.tape w.drawn (.mapNext (jaZ l seen).length) % (jaZ l seen).length],List.getElem_mem _,_,?_,hr.drew.put_same _,((jae.refl _ w).drew).trans (jae.onePut w.drew r _)⟩
   have hp:=pick _ hi w.drew hr;simp only[choose,Sem.run,Question.forced,hsz,h1,decide_false,Bool.false_eq_true,if_false,Question.cut];exact hp
theorem jrF(E:ja3 P kt K){w:World}{b r:Nat}{l:List (Ent K)}{clock since:Nat}{seen:Array Nat}(hb:Blk w b (.map (E.arr l) clock))
  {x:Ent K} (hx:x∈l) (hr:Blk w r (.mapIter (some b) since (seen.push x.2.2) clock)) (hnd:(l.map (·.2.2)).Nodup) :
  (Instr.entry (.pointer (some ⟨r,0,none⟩))).run P w=.ok (.tuple #[E.κ x.1,x.2.1]) w:=by
 have hg:(getObj b).run P w=.ok (.map (E.arr l) clock) w:=by simp[getObj,Sem.run,show w.heap[b]?=_ from hb]
 have hgr:(getObj r).run P w=.ok (.mapIter (some b) since (seen.push x.2.2) clock) w:=by simp[getObj,Sem.run,show w.heap[r]?=_ from hr]
 have hf:(E.arr l).find? (fun e=>e.born == x.2.2)=some (E.mk1 x):=by
  have:∀ l:List (Ent K),x∈l->(l.map (·.2.2)).Nodup->(l.map E.mk1).find? (fun e=>e.born == x.2.2)=some (E.mk1 x):=by
   intro l;induction l with
   | nil=>intro h;cases h
   | cons y r ih =>
    intro hx hn;simp only[List.map_cons,List.nodup_cons]at hn;rw[List.map_cons,List.find?_cons];rcases List.mem_cons.1 hx with rfl | hx
    ·simp[ja3.mk1]
    ·have hne:y.2.2≠x.2.2:=fun e=>hn.1 (e ▸ List.mem_map_of_mem (f:=fun z:Ent K=>z.2.2) hx)
     have hb':((E.mk1 y).born == x.2.2)=false:=by simpa [ja3.mk1]using hne
     rw[hb'];exact ih hx hn.2
  simpa [ja3.arr]using this l hx hnd
 simp[Instr.entry,Sem.run_bind,Result.andThen,hgr,hg,hf,ja3.mk1]
end maps
theorem jpP{P:Program}{kt:TypeId}(h:P.underlying kt=some .string)(e:Bool)(a:vB)(w:World)(n:Nat) :
  (Instr.checkKey e (n+1) kt (.string a)).run P w=.ok () w:=by
 simp[Instr.checkKey,Sem.run_bind,Result.andThen,run_underlying h]
theorem jeM(a b:vB):(a == b)=decide (a=b):=by
 show ByteArray.beq a b=_;cases a;cases b;simp only[ByteArray.beq,ByteArray.mk.injEq];rw[Bool.eq_iff_iff];simp
theorem jst(a:vB)(n:Nat):Instr.sameBits n (.string a) (.string a)=true:=by
 cases n <;> simp[Instr.sameBits,jeM]
theorem jtn(w:World)(T:TypeId)(news:List Value):∀ j u,news[j]?=some u->(w.alloc (.cells news.toArray T)).cell? ((⟨w.heap.size,0,none⟩:Addr).add j)=some u:=by
 intro j u hj;rw[Addr.add_lit,Nat.zero_add];exact (Blk.new w (.cells news.toArray T)).cellL hj
theorem jq7{v:Value}(h:v.oneCell'=true):v.cells=#[v]:=by
 cases v <;> first | rfl |(simp[Value.oneCell']at h)
theorem jlH{P:Program}(a:Addr)(W:World)(v:Value):(storeCells a [v]).run P W=(store a v).run P W:=by
 have ha:a.add 0=a:=by unfold Addr.add;simp
 simp only[storeCells,Sem.run_bind,ha];cases (store a v).run P W <;> rfl
theorem jaJ{w:World}{e:TypeId}{size:Nat}{v:Value}{n:Nat}{xs:List Value}{B:Nat}(h:w.ownsRow B e size v n xs):∃ a c,v=.slice a n c:=by
 obtain⟨_,⟨e,rfl⟩ |⟨g,c,_,e,_⟩⟩:=h
 ·exact⟨none,0,e⟩
 ·exact⟨_,c,e⟩
section append
variable {P:Program} (w:World)
theorem jdS{t ty e:TypeId}{i:TypeInfo}{z:Value}{size bytes:Nat}(ht:P.underlying t=some (.slice e))(hi:P.info? e=some i)(hz:i.zero=some z)
  (hsize:i.size=size) (hby:i.bytes=bytes) (hzs:z.cells.size=size) (hsz:0 < size)
  {v:Value} {n:Nat} {xs:List Value} (hown:w.ownsRow 0 e size v n xs)
  {a:Addr} {m c:Nat} {news:List Value} (hl:news.length=m * size) (hnews:∀ j u,news[j]?=some u->w.cell? (a.add j)=some u) (h1:∀ u∈news,u.oneCell'=true)
  (h63:n+m<=maxLen) (hbytes:(n+m) * bytes<=140737488355328) :
  ∃ v' w',(Builtin.append_ #[t,t] ty #[v,.slice (some a) m c]).run P w=.ok v' w'/\w'.ownsRow 0 e size v' (n+m) (xs++news)/\jae (fun b=>v.ownBlock=some b) w w' /\
   (v'.ownBlock=v.ownBlock\/∀ b,v'.ownBlock=some b->w.heap.size<=b):=by
 have up:∀ {B:Nat} {w':World} {v':Value} {k:Nat} {ys:List Value},w'.ownsRow B e size v' k ys->w'.ownsRow 0 e size v' k ys:=by
  rintro B w' v' k ys ⟨h1,h2 |⟨g,cap,cur,h2,_,h3⟩⟩
  ·exact⟨h1,.inl h2⟩
  ·exact⟨h1,.inr ⟨g,cap,cur,h2,Nat.zero_le _,h3⟩⟩
 have lo:∀ {B:Nat} {w':World} {v':Value} {k:Nat} {ys:List Value},w'.ownsRow B e size v' k ys->∀ b,v'.ownBlock=some b->B<=b:=by
  intro B w' v' k ys h b hb;exact (World.ownsRow.lt h b hb).1
 have hown':=hown
 obtain⟨hxl,⟨rfl,rfl⟩ |⟨g,cap,cur,rfl,_,hg,hnc,hcm,hcs,hct⟩⟩:=hown
 ·obtain⟨v',w',hr,r1,r2,_⟩:=run_append_own (P:=P) w w.heap.size t ty e i z size bytes ht hi hz hsize hby hzs hsz (.slice none 0 0) 0 xs ⟨hxl,.inl ⟨rfl,rfl⟩⟩ a m c news hl hnews h1 h63 hbytes (Nat.le_refl _)
  exact⟨v',w',hr,up r1,jae.of_grown r2 (fun r e _=>e),.inr (lo r1)⟩
 ·by_cases hroom:n+m<=cap
  ·obtain⟨w',hr,r1,r2⟩:=run_append_fits (P:=P) w 0 t ty e i size ht hi hsize g n cap xs hown' a m c news hl hnews h1 hroom
   exact⟨_,w',hr,r1,jae.of_grown r2 (fun r e _=>e),.inl rfl⟩
  ·have holds:∀ j u,xs[j]?=some u->w.cell? ((⟨g,0,none⟩:Addr).add j)=some u:=World.ownsRow.cells hown' rfl
   obtain⟨v',w',hr,r1,r2⟩:=run_append_arg_grows (P:=P) w t ty e i z size bytes ht hi hz hsize hby hzs hsz ⟨g,0,none⟩ n cap xs hxl holds a m c news hl hnews vO h63 hbytes
   exact⟨v',w',hr,up r1,jae.of_grown r2 (fun r e _=>by cases e),.inr (lo r1)⟩
theorem jbO{ops:Array Oper}{rest:List Oper}{o:Oper}{a:Act}{Q:Exit->Act->World->Prop}(hgd:o.guard=none)(s x:Operand)(t:TypeId)
  (ho:o.op=.call { callee:=.builtin .append,args:=#[s,x],argTypes:=#[t,t] })
  (e:TypeId) (i:TypeInfo) (z:Value) (size bytes:Nat) (ht:P.underlying t=some (.slice e)) (hi:P.info? e=some i) (hz:i.zero=some z)
  (hsize:i.size=size) (hby:i.bytes=bytes) (hzs:z.cells.size=size) (hsz:0 < size)
  (v:Value) (n:Nat) (xs:List Value) (hs:a.eval s=v) (hown:w.ownsRow 0 e size v n xs)
  (ad:Addr) (m c:Nat) (news:List Value) (hx:a.eval x=.slice (some ad) m c) (hl:news.length=m * size) (hnews:∀ j u,news[j]?=some u->w.cell? (ad.add j)=some u) (h1:∀ u∈news,u.oneCell'=true)
  (h63:n+m<=maxLen) (hbytes:(n+m) * bytes<=140737488355328)
  (h:∀ v' w',w'.ownsRow 0 e size v' (n+m) (xs++news)->jae (fun b=>v.ownBlock=some b) w w'->(v'.ownBlock=v.ownBlock\/∀ b,v'.ownBlock=some b->w.heap.size<=b)->wpList P ops Q rest (a.put o.dst v') w'):wpList P ops Q (o :: rest) a w:=by
 refine wpList_plain hgd fun K hK'=>?_
 obtain⟨v',w',hrun,r1,r2,r3⟩:=jdS (P:=P) w (t:=t) (ty:=o.type) ht hi hz hsize hby hzs hsz hown (c:=c) hl hnews h1 h63 hbytes
 unfold Oper.wp;simp[execOp,ho,resolve,invoke,builtin,hs,hx,hrun,Result.andThen];exact hK' _ _ (h v' w' r1 r2 r3)
theorem jbV{F:Fence}{nf:Nat}{ops:Array Oper}{rest:List Oper}{o:Oper}{a:Act}{Q:Exit->Act->World->Prop}(hgd:o.guard=none)(s x:Operand)(t:TypeId)
  (ho:o.op=.call { callee:=.builtin .append,args:=#[s,x],argTypes:=#[t,t] })
  (e:TypeId) (i:TypeInfo) (z:Value) (size bytes:Nat) (ht:P.underlying t=some (.slice e)) (hi:P.info? e=some i) (hz:i.zero=some z)
  (hsize:i.size=size) (hby:i.bytes=bytes) (hzs:z.cells.size=size) (hsz:0 < size)
  (v:Value) (n:Nat) (xs:List Value) (hs:a.eval s=v) (hown:w.ownsRow 0 e size v n xs)
  (ad:Addr) (m c:Nat) (news:List Value) (hx:a.eval x=.slice (some ad) m c) (hl:news.length=m * size) (hnews:∀ j u,news[j]?=some u->w.cell? (ad.add j)=some u) (h1:∀ u∈news,u.oneCell'=true)
  (h63:n+m<=maxLen) (hbytes:(n+m) * bytes<=140737488355328)
  (h:∀ v' w',w'.ownsRow 0 e size v' (n+m) (xs++news)->jae (fun b=>v.ownBlock=some b) w w'->(v'.ownBlock=v.ownBlock\/∀ b,v'.ownBlock=some b->w.heap.size<=b)->wpListIn F nf P ops Q rest (a.put o.dst v') w'):wpListIn F nf P ops Q (o :: rest) a w:=by
 refine wpListIn_plain hgd fun K hK'=>?_
 obtain⟨v',w',hrun,r1,r2,r3⟩:=jdS (P:=P) w (t:=t) (ty:=o.type) ht hi hz hsize hby hzs hsz hown (c:=c) hl hnews h1 h63 hbytes
 have hsem:o.semAt F.round a.eval=execOp a.eval o:=by
  cases hr:F.round with
  | none=>rfl
  | some l=>exact Oper.semAt_some l _ o (by rw[ho];intro c hc;cases hc)
 unfold Oper.wpIn;rw[hsem]
 refine⟨fun f hf=>?_,?_⟩
 ·simp[Oper.about,ho,resolve,Target.leads]at hf
 ·simp[execOp,ho,resolve,invoke,builtin,hs,hx,hrun,Result.andThen,Oper.uponIn]
  exact hK' _ _ (h v' w' r1 r2 r3)
end append
def str(l:List UInt8):Value:=.string ⟨l.toArray⟩
theorem jpK(a b:List UInt8):((⟨a.toArray⟩:vB) ==⟨b.toArray⟩)=decide (a=b):=by
 rw[jeM];simp
def jxs{P:Program}{kt:TypeId}(h:P.underlying kt=some .string):ja3 P kt (List UInt8) where
 κ:=str
 desc:=.string
 und:=h
 same:=fun a b=>by simp only[Instr.sameNow,str,jpK]
 check:=fun e a w=>jpP h e _ w 9999
 bits:=fun a=>jst _ 10000
end
end Go.Proofs.YtcpnjmcipainpaaGreatDoor
