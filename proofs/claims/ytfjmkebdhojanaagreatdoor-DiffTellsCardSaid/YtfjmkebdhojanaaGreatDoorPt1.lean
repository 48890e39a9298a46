/- Lemmas; each is under no condition but those that it states. -/
import Derived.Test.YtfjmkebdhojanaaGreatDoorPt0
import Derived.RangeFuncWrites
import Derived.Lib.Hide
namespace Go.Proofs.YtfjmkebdhojanaaGreatDoor
set_option linter.unusedSimpArgs false
set_option linter.unusedVariables false
set_option maxRecDepth 100000
set_option maxHeartbeats 16000000
open Go Go.RowKit
section
abbrev BSet:=Nat->Prop
structure jae(F:BSet)(w w':World):Prop where
 os:w'.os=w.os
 tape:w'.tape=w.tape
 output:w'.output=w.output
 size:w.heap.size<=w'.heap.size
 block:∀ b,b < w.heap.size->¬ F b->w'.heap[b]?=w.heap[b]?
theorem jae.refl(F:BSet)(w:vW):jae F w w:=⟨rfl,rfl,rfl,bL _,fun _ _ _=>rfl⟩
theorem jae.trans'{F G:BSet}{a b c:vW}(h:jae F a b)(k:jae G b c)(hG:∀ x,x < a.heap.size->G x->F x):jae F a c:=
 ⟨k.os.trans h.os,k.tape.trans h.tape,k.output.trans h.output,bJ h.size k.size,
  fun x e o=>(k.block x (bQ e h.size) (fun g=>o (hG x e g))).trans (h.block x e o)⟩
theorem jae.trans{F:BSet}{a b c:vW}(h:jae F a b)(k:jae F b c):jae F a c:=h.trans' k fun _ _ g=>g
theorem jae.mono{F G:BSet}{a b:vW}(h:jae F a b)(hG:∀ x,x < a.heap.size->F x->G x):jae G a b:=
 (jae.refl G a).trans' h hG
theorem jae.alloc{F:BSet}{a b:vW}(h:jae F a b)(o:Obj):jae F a (b.alloc o):=
 h.trans' (G:=fun _=>False) ⟨rfl,rfl,rfl,by simp,fun x e _=>Below.heap_alloc _ _ _ e⟩ (fun _ _ g=>g.elim)
theorem jae.drew{F:BSet}{a b:vW}(h:jae F a b):jae F a b.drew:=⟨h.os,h.tape,h.output,h.size,h.block⟩
theorem jae.setCell{F:BSet}{a b:vW}(h:jae F a b){p:Addr}(hp:F p.block\/a.heap.size<=p.block)(u:vV):jae F a (b.setCell p u):=
 h.trans' (G:=fun x=>x=p.block) ⟨rfl,rfl,rfl,by simp[World.setCell],fun x _ e=>Below.heap_setCell _ _ _ _ e⟩ (fun x e g=>by
  subst g;rcases hp with hp | hp
  ·exact hp
  ·omega)
theorem jae.putObj{F:BSet}{a b:vW}(h:jae F a b){r:Nat}(hp:F r\/a.heap.size<=r)(o:Obj):jae F a (b.putObj r o):=
 h.trans' (G:=fun x=>x=r) ⟨rfl,rfl,rfl,by simp,fun x _ e=>World.putObj_heap_other e⟩ (fun x e g=>by
  subst g;rcases hp with hp | hp
  ·exact hp
  ·omega)
theorem jae.onePut(w:vW)(r:Nat)(o:Obj):jae (fun b=>b=r) w (w.putObj r o):=(jae.refl (fun b=>b=r) w).putObj (r:=r) (.inl (Eq.refl r)) o
theorem jae.oneSet(w:vW)(p:Addr)(u:vV):jae (fun b=>b=p.block) w (w.setCell p u):=(jae.refl (fun b=>b=p.block) w).setCell (p:=p) (.inl (Eq.refl p.block)) u
theorem jae.of_below{F:BSet}{a b:vW}(h:Below a.heap.size a b):jae F a b:=
 ⟨h.os,h.tape,h.output,h.size,fun x e _=>h.block x e⟩
theorem jae.of_grown{F:BSet}{a b:vW}{row:Option Nat}(h:a.grownBy b row)(hr:∀ r,row=some r->r < a.heap.size->F r):jae F a b:=
 ⟨h.os,h.tape,h.output,h.size,fun x o A=>h.block x o (fun e=>A (hr x e.symm o))⟩
abbrev Ext(w w':vW):Prop:=jae (fun _=>False) w w'
def vR(f:FuncId)(a:Array vV)(w:vW)(v:vV):Prop:=vQ f a w fun e w'=>e=.returned v/\Ext w w'
def Blk(w:vW)(b:Nat)(o:Obj):Prop:=w.heap[b]?=some o
theorem Blk.lt{w:vW}{b:Nat}{o:Obj}(h:Blk w b o):b < w.heap.size:=(dJ.1 h).1
theorem Blk.cell{w:vW}{b i:Nat}{c:Array vV}{T:TypeId}{fz:Nat × Nat}{v:vV}(h:Blk w b (.cells c T fz))(hi:c[i]?=some v):w.cell? ⟨b,i,none⟩=some v:=by
 simp[World.cell?,show w.heap[b]?=_ from h,hi]
theorem Blk.frozen{w:vW}{b i:Nat}{c:Array vV}{T:TypeId}(h:Blk w b (.cells c T (0,0))):w.frozen? ⟨b,i,none⟩=false:=by
 simp[World.frozen?,show w.heap[b]?=_ from h]
theorem Blk.new(w:vW)(o:Obj):Blk (w.alloc o) w.heap.size o:=World.alloc_heap_new w o
theorem Blk.alloc{w:vW}{b:Nat}{o:Obj}(h:Blk w b o)(o':Obj):Blk (w.alloc o') b o:=(Below.heap_alloc w o' b h.lt).trans h
theorem Blk.drew{w:vW}{b:Nat}{o:Obj}(h:Blk w b o):Blk w.drew b o:=h
theorem Blk.keeps{F:BSet}{w w':vW}{b:Nat}{o:Obj}(h:Blk w b o)(k:jae F w w')(hF:¬ F b):Blk w' b o:=(k.block b h.lt hF).trans h
theorem Blk.set_other{w:vW}{b:Nat}{o:Obj}(h:Blk w b o){p:Addr}(hp:b≠p.block)(u:vV):Blk (w.setCell p u) b o:=(Below.heap_setCell w p u b hp).trans h
theorem Blk.set_same{w:vW}{b i:Nat}{c:Array vV}{T:TypeId}{fz:Nat × Nat}(h:Blk w b (.cells c T fz))(u:vV):Blk (w.setCell ⟨b,i,none⟩ u) b (.cells (c.setIfInBounds i u) T fz):=by
 simp only[Blk,World.setCell,Array.getElem?_modify];simp[show w.heap[b]?=_ from h]
theorem Blk.put_other{w:vW}{b r:Nat}{o:Obj}(h:Blk w b o)(hr:b≠r)(o':Obj):Blk (w.putObj r o') b o:=(World.putObj_heap_other hr).trans h
theorem Blk.put_same{w:vW}{b:Nat}{o:Obj}(h:Blk w b o)(o':Obj):Blk (w.putObj b o') b o':=World.putObj_heap_same h.lt
theorem Blk.uniq{w:vW}{b:Nat}{o o':Obj}(h:Blk w b o)(h':Blk w b o'):o=o':=by
 have e:w.heap[b]?=some o:=h;rw[show w.heap[b]?=some o' from h']at e;simpa using e.symm
theorem Blk.setCells{b:Nat}{T:TypeId}{fz:Nat × Nat}:∀ (vs:List vV) (o:Nat) (w:vW) (c:List vV),Blk w b (.cells c.toArray T fz)->o+vs.length<=c.length ->
  Blk (w.setCells b o vs) b (.cells (c.take o++vs++c.drop (o+vs.length)).toArray T fz)
 | [],o,w,c,h,_=>by simpa [World.setCells]using h
 | v :: r,o,w,c,h,hl=>by
  simp only[bF]at hl;have e:=h.set_same (i:=o) v;have E:(c.toArray.setIfInBounds o v)=(c.set o v).toArray:=by simp
  rw[E]at e;have A:=Blk.setCells r (o+1) _ _ e (by simp;omega);simp only[World.setCells];have H:(c.set o v).take (o+1)=c.take o++[v]:=by
   rw[cX (by simp;omega),List.take_set_of_le (bL o)]
   simp
  have J:(c.set o v).drop (o+1+r.length)=c.drop (o+(v :: r).length):=by
   rw[List.drop_set_of_lt vO]
   congr 1;simp;omega
  rw[H,J]at A;simpa using A
theorem jae.oneSetCells(b:Nat):∀ (vs:List vV) (o:Nat) (w:vW),jae (fun x=>x=b) w (w.setCells b o vs)
 | [],_,w=>jae.refl _ w
 | v :: r,o,w=>(jae.oneSet w ⟨b,o,none⟩ v).trans (jae.oneSetCells b r (o+1) _)
theorem Blk.cellL{w:vW}{b i:Nat}{c:List vV}{T:TypeId}{fz:Nat × Nat}{v:vV}(h:Blk w b (.cells c.toArray T fz))(hi:c[i]?=some v):w.cell? ⟨b,i,none⟩=some v:=
 h.cell (by simpa using hi)
theorem jbH{α β:Type}{f:α->β}:∀ {l:List α},(l.map f).Nodup->∀ {x y:α},x∈l->y∈l->f x=f y->x=y
 | [],_,_,_,hx,_,_=>by cases hx
 | z :: r,h,x,y,hx,hy,e=>by
  simp only[bS,fF]at h;rcases bM.1 hx with hx1 | hx1
  ·rcases bM.1 hy with hy1 | hy1
   ·rw[hx1,hy1]
   ·exact absurd (bK.2 ⟨y,hy1,by rw[<-e,hx1]⟩) h.1
  ·rcases bM.1 hy with hy1 | hy1
   ·exact absurd (bK.2 ⟨x,hx1,by rw[e,hy1]⟩) h.1
   ·exact jbH h.2 hx1 hy1 e
theorem jiV{α:Type}[BEq α][LawfulBEq α]{l m:List α}(hl:l.Nodup)(hm:m.Nodup)(h:∀ a,a∈l↔a∈m):l.Perm m:=by
 rw[List.perm_iff_count];intro a;have o:=List.nodup_iff_count.1 hl a;have A:=List.nodup_iff_count.1 hm a
 by_cases ha:a∈l
 ·have:=gZ.2 ha
  have:=gZ.2 ((h a).1 ha)
  omega
 ·rw[List.count_eq_zero.2 ha,List.count_eq_zero.2 (fun e=>ha ((h a).2 e))]
section maps
structure ja5(P:Program)(kt:TypeId)(K:Type)[DecidableEq K] where
 κ:K->vV
 desc:TypeDesc
 und:P.underlying kt=some desc
 same:∀ a b,Instr.sameNow desc (κ a) (κ b)=some (decide (a=b))
 check:∀ e a w,(Instr.checkKey e 10000 kt (κ a)).run P w=.ok () w
 bits:∀ a,Instr.sameBits 10000 (κ a) (κ a)=true
variable {P:Program} {kt:TypeId} {K:Type} [DecidableEq K]
abbrev Ent(K:Type):=K × vV × Nat
def ja5.mk1(E:ja5 P kt K)(x:Ent K):MapEntry:={ key:=E.κ x.1,val:=x.2.1,born:=x.2.2 }
def ja5.arr(E:ja5 P kt K)(l:List (Ent K)):Array MapEntry:=(l.map E.mk1).toArray
def jaX(l:List (Ent K))(k:K):Option vV:=(l.find? (fun x=>decide (k=x.1))).map (·.2.1)
def jbt(l:List (Ent K))(k:K)(v:vV)(n:Nat):List (Ent K):=
 match l with
 | []=>[(k,v,n)]
 | x :: r=>if k=x.1 then (k,v,x.2.2) :: r else x :: jbt r k v n
def jd3(l:List (Ent K))(k:K):List (Ent K):=
 match l with
 | []=>[]
 | x :: r=>if k=x.1 then r else x :: jd3 r k
theorem ja5.findNow(E:ja5 P kt K)(k:K):∀ (l:List (Ent K)) (i:Nat),
  Instr.findNow E.desc (E.κ k) (l.map E.mk1) i=some ((l.findIdx? (fun x=>decide (k=x.1))).bind fun j=>(l[j]?).map fun x=>(i+j,x.2.1))
 | [],i=>rfl
 | x :: r,i=>by
  simp only[bS,Instr.findNow,ja5.mk1,E.same,gY]
  by_cases h:k=x.1
  ·simp[h]
  ·simp only[h,decide_false,ja5.findNow E k r (i+1)]
   cases hj:r.findIdx? (fun x=>decide (k=x.1))with
   | none=>simp
   | some j=>simp[Nat.add_assoc,gN 1 j]
theorem jf7(E:ja5 P kt K)(k:K)(l:List (Ent K))(w:vW) :
  (Instr.findKey kt (E.κ k) (E.arr l).toList).run P w=.ok ((l.findIdx? (fun x=>decide (k=x.1))).bind fun j=>(l[j]?).map fun x=>(j,x.2.1)) w:=by
 simp[Instr.findKey,ja5.arr,cA,Result.andThen,run_underlying E.und,E.findNow k l 0]
theorem jjQ(l:List (Ent K))(k:K):jaX l k=(l.findIdx? (fun x=>decide (k=x.1))).bind fun j=>(l[j]?).map (·.2.1):=by
 induction l with
 | nil=>rfl
 | cons x r ih =>
  simp only[jaX,fY,gY]
  by_cases h:k=x.1
  ·simp[h]
  ·simp only[h,decide_false]
   simp only[jaX]at ih;rw[ih];cases r.findIdx? (fun x=>decide (k=x.1)) <;> simp
theorem jcx(E:ja5 P kt K){t e:TypeId}(ht:P.underlying t=some (.map kt e)){w:vW}{b:Nat}{l:List (Ent K)}{clock:Nat}
  (hb:Blk w b (.map (E.arr l) clock)) {z:vV} (hz:(zeroValue e).run P w=.ok z w) (k:K) (ok:Bool) :
  (Instr.lookup t (.map (some b)) (E.κ k) ok).run P w=.ok (if ok then .tuple #[(jaX l k).getD z,.bool (jaX l k).isSome]else (jaX l k).getD z) w:=by
 have H:(getObj b).run P w=.ok (.map (E.arr l) clock) w:=by simp[getObj,Sem.run,show w.heap[b]?=_ from hb]
 have o:=jf7 E k l w;simp only[Instr.lookup,cA,Result.andThen,run_underlying ht,H,E.check,o];rw[jjQ];cases hj:l.findIdx? (fun x=>decide (k=x.1))with
 | none=>rw[hj]at o;cases ok <;> simp[cA,Result.andThen,hz,o]
 | some j =>
  obtain⟨A,_⟩:=List.findIdx?_eq_some_iff_getElem.1 hj
  rw[hj]at o;cases ok <;> simp[cA,Result.andThen,A,o]
theorem ja5.modify(E:ja5 P kt K)(k:K)(v:vV)(n:Nat):∀ (l:List (Ent K)) (j:Nat),l.findIdx? (fun x=>decide (k=x.1))=some j ->
  ((l.map E.mk1).toArray.modify j fun e=>{ e with key:=E.κ k,val:=v })=E.arr (jbt l k v n)
 | [],j,h=>by simp at h
 | x :: r,j,h=>by
  rw[gY]at h
  by_cases hk:k=x.1
  ·simp only[hk,decide_true,if_true,Option.some.injEq]at h
   subst h;simp[ja5.arr,jbt,hk,ja5.mk1,List.modify_toArray]
  ·simp only[hk,decide_false,cR,if_false,fE]at h
   obtain⟨i,o,rfl⟩:=h
   have:=ja5.modify E k v n r i o
   simp only[ja5.arr,List.modify_toArray]at this;simp only[ja5.arr,jbt,hk,if_false,bS,List.modify_toArray,List.modify_succ_cons];simpa using this
theorem jb4(E:ja5 P kt K){t e:TypeId}(ht:P.underlying t=some (.map kt e)){w:vW}{b:Nat}{l:List (Ent K)}{clock:Nat}
  (hb:Blk w b (.map (E.arr l) clock)) (k:K) (v:vV) :
  (Instr.mapUpdate t (.map (some b)) (E.κ k) v).run P w=.ok () (w.putObj b (.map (E.arr (jbt l k v clock)) (if (jaX l k).isSome then clock else clock+1))):=by
 have Z:(getObj b).run P w=.ok (.map (E.arr l) clock) w:=by simp[getObj,Sem.run,show w.heap[b]?=_ from hb]
 have J:∀ o,(setObj b o).run P w=.ok () (w.putObj b o):=by intro o;simp[setObj,Sem.run,show w.heap[b]?=_ from hb,World.putObj]
 have hf:=jf7 E k l w;simp only[Instr.mapUpdate,cA,Result.andThen,run_underlying ht,Z,E.check,hf];rw[jjQ];cases hj:l.findIdx? (fun x=>decide (k=x.1))with
 | none =>
  have hp:(E.arr l).push { key:=E.κ k,val:=v,born:=clock }=E.arr (jbt l k v clock):=by
   have:∀ l:List (Ent K),l.findIdx? (fun x=>decide (k=x.1))=none->jbt l k v clock=l++[(k,v,clock)]:=by
    intro l;induction l with
    | nil=>intro _;rfl
    | cons x r ih =>
     intro h;rw[gY]at h
     by_cases hk:k=x.1
     ·simp[hk]at h
     ·simp only[hk,decide_false,cR,if_false,Option.map_eq_none_iff]at h
      simp[jbt,hk,ih h]
   rw[this l hj];simp[ja5.arr,ja5.mk1]
  simp[J,hp]
 | some j =>
  obtain⟨A,O,_⟩:=List.findIdx?_eq_some_iff_getElem.1 hj
  have Q:k=l[j].1:=by simpa using O
  have X:=ja5.modify E k v clock l j hj;have H:(((E.arr l)[j]?).map (·.key)).getD (E.κ k)=E.κ k:=by simp[ja5.arr,A,ja5.mk1, <-Q]
  simp only[Option.bind_some,bA A,gQ,Option.isSome_some,if_true];simp only[cA,Result.andThen,H,Instr.keyThatStays,E.bits,if_true];simp only[ja5.arr]at X J ⊢;rw[<-X];simp[Sem.run,J]
theorem jq2(E:ja5 P kt K){t e:TypeId}(ht:P.underlying t=some (.map kt e)){w:vW}{b:Nat}{l:List (Ent K)}{clock:Nat}
  (hb:Blk w b (.map (E.arr l) clock)) (k:K) (kt' r:TypeId) :
  (Builtin.delete_ #[t,kt'] r #[.map (some b),E.κ k]).run P w=.ok (.tuple #[]) (w.putObj b (.map (E.arr (jd3 l k)) clock)):=by
 have J:(getObj b).run P w=.ok (.map (E.arr l) clock) w:=by simp[getObj,Sem.run,show w.heap[b]?=_ from hb]
 have H:∀ o,(setObj b o).run P w=.ok () (w.putObj b o):=by intro o;simp[setObj,Sem.run,show w.heap[b]?=_ from hb,World.putObj]
 have O:=jf7 E k l w;have Q:∀ l:List (Ent K),l.findIdx? (fun x=>decide (k=x.1))=none->jd3 l k=l:=by
  intro l;induction l with
  | nil=>intro _;rfl
  | cons x r ih =>
   intro h;rw[gY]at h
   by_cases hk:k=x.1
   ·simp[hk]at h
   ·simp only[hk,decide_false,cR,if_false,Option.map_eq_none_iff]at h
    simp[jd3,hk,ih h]
 have X:∀ (l:List (Ent K)) (j:Nat),l.findIdx? (fun x=>decide (k=x.1))=some j->l.eraseIdx j=jd3 l k:=by
  intro l;induction l with
  | nil=>intro j h;simp at h
  | cons x r ih =>
   intro j h;rw[gY]at h
   by_cases hk:k=x.1
   ·simp only[hk,decide_true,if_true,Option.some.injEq]at h
    subst h;simp[jd3,hk]
   ·simp only[hk,decide_false,cR,if_false,fE]at h
    obtain⟨i,Z,rfl⟩:=h
    simp[jd3,hk,ih i Z]
 simp only[Builtin.delete_,cA,Result.andThen,run_underlying ht,List.getElem?_toArray,List.getElem?_cons_zero,List.getElem?_cons_succ,J,E.check,O];cases hj:l.findIdx? (fun x=>decide (k=x.1))with
 | none=>simp[H,Q l hj,Sem.run,cA,Result.andThen]
 | some j =>
  obtain⟨A,_⟩:=List.findIdx?_eq_some_iff_getElem.1 hj
  have he:(E.arr l).eraseIdxIfInBounds j=E.arr (jd3 l k):=by
   rw[<-X l j hj];have hm:∀ (l:List (Ent K)) (j:Nat),(l.map E.mk1).eraseIdx j=(l.eraseIdx j).map E.mk1:=by
    intro l;induction l with
    | nil=>intro j;rfl
    | cons x r ih=>intro j;cases j with
     | zero=>rfl
     | succ j=>simp[ih j]
   simp[ja5.arr,Array.eraseIdxIfInBounds,A,hm]
  simp[A,H,he,Sem.run,cA,Result.andThen]
theorem jja(E:ja5 P kt K){t e:TypeId}(ht:P.underlying t=some (.map kt e)){w:vW}{b:Nat}{l:List (Ent K)}{clock:Nat}(hb:Blk w b (.map (E.arr l) clock))(r:TypeId) :
  (Builtin.len_ #[t] r #[.map (some b)]).run P w=.ok (.int .i64 l.length) w:=by
 have o:(getObj b).run P w=.ok (.map (E.arr l) clock) w:=by simp[getObj,Sem.run,show w.heap[b]?=_ from hb]
 simp[Builtin.len_,cA,Result.andThen,run_underlying ht,o,ja5.arr,goInt]
def jaZ(l:List (Ent K))(seen:Array Nat):List (Ent K):=l.filter fun x => !seen.contains x.2.2
theorem jm7(E:ja5 P kt K){t e:TypeId}(ht:P.underlying t=some (.map kt e)){w:vW}{b:Nat}{l:List (Ent K)}{clock:Nat}(hb:Blk w b (.map (E.arr l) clock)) :
  (Instr.range t (.map (some b))).run P w=.ok (.pointer (some ⟨w.heap.size,0,none⟩)) (w.alloc (.mapIter (some b) clock #[] clock)):=by
 have o:(getObj b).run P w=.ok (.map (E.arr l) clock) w:=by simp[getObj,Sem.run,show w.heap[b]?=_ from hb]
 simp[Instr.range,cA,Result.andThen,run_underlying ht,o]
theorem jpS(E:ja5 P kt K){w:vW}{b r:Nat}{l:List (Ent K)}{clock:Nat}{seen:Array Nat}(hb:Blk w b (.map (E.arr l) clock))
  (hr:Blk w r (.mapIter (some b) clock seen clock)) (hlt:∀ x∈l,x.2.2 < clock) (T:TypeId) :
  (jaZ l seen=[]/\(Instr.next (.pointer (some ⟨r,0,none⟩)) false T).run P w=.ok (.tuple #[.bool false]) w) \/
  (∃ x∈jaZ l seen,∃ w',(Instr.next (.pointer (some ⟨r,0,none⟩)) false T).run P w=.ok (.tuple #[.bool true,E.κ x.1,x.2.1]) w' /\
   Blk w' r (.mapIter (some b) clock (seen.push x.2.2) clock)/\jae (fun z=>z=r) w w'):=by
 have hg:∀ A,Blk A b (.map (E.arr l) clock)->(getObj b).run P A=.ok (.map (E.arr l) clock) A:=fun A hb=>by simp[getObj,Sem.run,show A.heap[b]?=_ from hb]
 have a0:(getObj r).run P w=.ok (.mapIter (some b) clock seen clock) w:=by simp[getObj,Sem.run,show w.heap[r]?=_ from hr]
 have J:(!seen.isEmpty && !(E.arr l).isEmpty && (E.arr l).all (fun x=>decide (x.born ≥ clock)))=false:=by
  cases l with
  | nil=>simp[ja5.arr]
  | cons x rest =>
   have:=hlt x (bG ..)
   have h2:(E.arr (x :: rest)).all (fun x=>decide (x.born ≥ clock))=false:=by
    rw[gD];intro hc;rw[Array.all_eq_true_iff_forall_mem]at hc
    have:=hc (E.mk1 x) (by simp[ja5.arr])
    simp[ja5.mk1]at this;omega
   rw[h2];simp
 have H:(E.arr l).filter (fun e => !seen.contains e.born)=E.arr (jaZ l seen):=by
  simp only[ja5.arr,jaZ,List.filter_toArray,List.filter_map];rfl
 have O:(E.arr (jaZ l seen)).filter (fun x=>decide (x.born < clock))=E.arr (jaZ l seen):=by
  simp only[ja5.arr,List.filter_toArray,List.filter_map]
  congr 2
  rw[jI];intro x hx
  have:x∈l:=(cP.1 hx).1
  exact decide_eq_true (hlt x this)
 have Q:(E.arr (jaZ l seen)).filter (fun x=>decide (x.born ≥ clock))=#[]:=by
  simp only[ja5.arr,List.filter_toArray,List.filter_map]
  have:(jaZ l seen).filter ((fun x=>decide (x.born ≥ clock)) ∘ E.mk1)=[]:=by
   rw[iD];intro x hx;have h1:x∈l:=(cP.1 hx).1;have h2:=hlt x h1;show ¬ decide (x.2.2 ≥ clock)=true;simp only[ge_iff_le,decide_eq_true_eq];omega
  rw[this];rfl
 by_cases h0:jaZ l seen=[]
 ·left
  refine⟨h0,?_⟩
  simp only[Instr.next,cA,Result.andThen,a0,hg w hb,J,cR,if_false,H,O,Q,h0];simp[ja5.arr,choose,Sem.run,Question.forced,cA,Result.andThen]
 ·right
  have hs:∀ A o,Blk A r (.mapIter (some b) clock seen clock)->(setObj r o).run P A=.ok () (A.putObj r o):=by
   intro A o h;simp[setObj,Sem.run,show A.heap[r]?=_ from h,World.putObj]
  have a2:(E.arr (jaZ l seen)).isEmpty=false:=by
   simp only[ja5.arr,List.isEmpty_toArray,List.isEmpty_map];cases hh:jaZ l seen with
   | nil=>exact absurd hh h0
   | cons _ _=>rfl
  have X:0 < (jaZ l seen).length:=gE.2 h0;have Z:∀ (i:Nat) (hi:i < (jaZ l seen).length) (A:vW),Blk A r (.mapIter (some b) clock seen clock) ->
    Sem.run P (match (#[]++(E.arr (jaZ l seen)++#[]).map some)[i]? with
     | some (some e)=>do setObj r (.mapIter (some b) clock (seen.push e.born) clock);pure (Value.tuple #[.bool true,e.key,e.val])
     | some none=>pure (Value.tuple #[.bool false])
     | none=>stuck "Next: no such candidate") A =
    .ok (.tuple #[.bool true,E.κ (jaZ l seen)[i].1,(jaZ l seen)[i].2.1]) (A.putObj r (.mapIter (some b) clock (seen.push (jaZ l seen)[i].2.2) clock)):=by
   intro i hi A a3;have e1:(#[]++(E.arr (jaZ l seen)++#[]).map some)[i]?=some (some (E.mk1 (jaZ l seen)[i])):=by
    simp[ja5.arr,hi]
   rw[e1];simp[cA,Result.andThen,hs A _ a3,ja5.mk1,Sem.run]
  have a1:(#[]++(E.arr (jaZ l seen)++#[]).map some).size=(jaZ l seen).length:=by simp[ja5.arr]
  simp only[Instr.next,cA,Result.andThen,a0,hg w hb,J,cR,if_false,H,O,Q,a2]
  by_cases h1:(jaZ l seen).length<=1
  ·refine⟨(jaZ l seen)[0],dD _,_,?_,hr.put_same _,jae.onePut w r _⟩
   have hp:=Z 0 X w hr;simp only[choose,Sem.run,Question.forced,a1,h1,decide_true,if_true];exact hp
  ·have hi:w.tape w.drawn (.mapNext (jaZ l seen).length) % (jaZ l seen).length < (jaZ l seen).length:=Nat.mod_lt _ X
   refine⟨(jaZ l seen)[w.tape w.drawn (.mapNext (jaZ l seen).length) % (jaZ l seen).length],dD _,_,?_,hr.drew.put_same _,((jae.refl _ w).drew).trans (jae.onePut w.drew r _)⟩
   have hp:=Z _ hi w.drew hr;simp only[choose,Sem.run,Question.forced,a1,h1,decide_false,cR,if_false,Question.cut];exact hp
theorem jm6(E:ja5 P kt K){w:vW}{b r:Nat}{l:List (Ent K)}{clock since:Nat}{seen:Array Nat}(hb:Blk w b (.map (E.arr l) clock))
  {x:Ent K} (o:x∈l) (hr:Blk w r (.mapIter (some b) since (seen.push x.2.2) clock)) (hnd:(l.map (·.2.2)).Nodup) :
  (Instr.entry (.pointer (some ⟨r,0,none⟩))).run P w=.ok (.tuple #[E.κ x.1,x.2.1]) w:=by
 have Q:(getObj b).run P w=.ok (.map (E.arr l) clock) w:=by simp[getObj,Sem.run,show w.heap[b]?=_ from hb]
 have A:(getObj r).run P w=.ok (.mapIter (some b) since (seen.push x.2.2) clock) w:=by simp[getObj,Sem.run,show w.heap[r]?=_ from hr]
 have X:(E.arr l).find? (fun e=>e.born == x.2.2)=some (E.mk1 x):=by
  have:∀ l:List (Ent K),x∈l->(l.map (·.2.2)).Nodup->(l.map E.mk1).find? (fun e=>e.born == x.2.2)=some (E.mk1 x):=by
   intro l;induction l with
   | nil=>intro h;cases h
   | cons y r ih =>
    intro o H;simp only[bS,fF]at H;rw[bS,fY];rcases bM.1 o with rfl | o
    ·simp[ja5.mk1]
    ·have J:y.2.2≠x.2.2:=fun e=>H.1 (e ▸ jH (f:=fun z:Ent K=>z.2.2) o)
     have O:((E.mk1 y).born == x.2.2)=false:=by simpa [ja5.mk1]using J
     rw[O];exact ih o H.2
  simpa [ja5.arr]using this l o hnd
 simp[Instr.entry,cA,Result.andThen,A,Q,X,ja5.mk1]
end maps
theorem jrS{P:Program}{kt:TypeId}(h:P.underlying kt=some .string)(e:Bool)(a:vB)(w:vW)(n:Nat) :
  (Instr.checkKey e (n+1) kt (.string a)).run P w=.ok () w:=by
 simp[Instr.checkKey,cA,Result.andThen,run_underlying h]
theorem jen(a b:vB):(a == b)=decide (a=b):=by
 show ByteArray.beq a b=_;cases a;cases b;simp only[ByteArray.beq,ByteArray.mk.injEq];rw[jB];simp
theorem juL(a:vB)(n:Nat):Instr.sameBits n (.string a) (.string a)=true:=by
 cases n <;> simp[Instr.sameBits,jen]
theorem jvF(w:vW)(T:TypeId)(news:List vV):∀ j u,news[j]?=some u->(w.alloc (.cells news.toArray T)).cell? ((⟨w.heap.size,0,none⟩:Addr).add j)=some u:=by
 intro j u e;rw[Addr.add_lit,cH];exact (Blk.new w (.cells news.toArray T)).cellL e
theorem jti{v:vV}(h:v.oneCell'=true):v.cells=#[v]:=by
 cases v <;> first | rfl |(simp[Value.oneCell']at h)
theorem jnd{P:Program}(a:Addr)(W:vW)(v:vV):(storeCells a [v]).run P W=(store a v).run P W:=by
 have e:a.add 0=a:=by unfold Addr.add;simp
 simp only[storeCells,cA,e];cases (store a v).run P W <;> rfl
theorem jaU{w:vW}{e:TypeId}{size:Nat}{v:vV}{n:Nat}{xs:List vV}{B:Nat}(h:w.ownsRow B e size v n xs):∃ a c,v=.slice a n c:=by
 obtain⟨_,⟨e,rfl⟩ |⟨g,c,_,e,_⟩⟩:=h
 ·exact⟨none,0,e⟩
 ·exact⟨_,c,e⟩
section append
variable {P:Program} (w:vW)
theorem jeh{t ty e:TypeId}{i:TypeInfo}{z:vV}{size bytes:Nat}(ht:P.underlying t=some (.slice e))(hi:P.info? e=some i)(hz:i.zero=some z)
  (hsize:i.size=size) (hby:i.bytes=bytes) (hzs:z.cells.size=size) (hsz:0 < size)
  {v:vV} {n:Nat} {xs:List vV} (hown:w.ownsRow 0 e size v n xs)
  {a:Addr} {m c:Nat} {news:List vV} (hl:news.length=m * size) (hnews:∀ j u,news[j]?=some u->w.cell? (a.add j)=some u) (O:∀ u∈news,u.oneCell'=true)
  (h63:n+m<=maxLen) (hbytes:(n+m) * bytes<=140737488355328) :
  ∃ o w',(Builtin.append_ #[t,t] ty #[v,.slice (some a) m c]).run P w=.ok o w'/\w'.ownsRow 0 e size o (n+m) (xs++news)/\jae (fun b=>v.ownBlock=some b) w w' /\
   (o.ownBlock=v.ownBlock\/∀ b,o.ownBlock=some b->w.heap.size<=b):=by
 have up:∀ {B:Nat} {w':vW} {o:vV} {k:Nat} {K:List vV},w'.ownsRow B e size o k K->w'.ownsRow 0 e size o k K:=by
  rintro B w' o k K ⟨O,h2 |⟨g,A,Q,h2,_,h3⟩⟩
  ·exact⟨O,.inl h2⟩
  ·exact⟨O,.inr ⟨g,A,Q,h2,cD _,h3⟩⟩
 have lo:∀ {B:Nat} {w':vW} {o:vV} {k:Nat} {K:List vV},w'.ownsRow B e size o k K->∀ b,o.ownBlock=some b->B<=b:=by
  intro B w' o k K h b hb;exact (World.ownsRow.lt h b hb).1
 have E:=hown
 obtain⟨X,⟨rfl,rfl⟩ |⟨g,A,Q,rfl,_,hg,a0,a1,a2,a3⟩⟩:=hown
 ·obtain⟨o,w',Z,H,r2,_⟩:=run_append_own (P:=P) w w.heap.size t ty e i z size bytes ht hi hz hsize hby hzs hsz (.slice none 0 0) 0 xs ⟨X,.inl ⟨rfl,rfl⟩⟩ a m c news hl hnews O h63 hbytes (bL _)
  exact⟨o,w',Z,up H,jae.of_grown r2 (fun r e _=>e),.inr (lo H)⟩
 ·by_cases hroom:n+m<=A
  ·obtain⟨w',Z,H,r2⟩:=run_append_fits (P:=P) w 0 t ty e i size ht hi hsize g n A xs E a m c news hl hnews O hroom
   exact⟨_,w',Z,H,jae.of_grown r2 (fun r e _=>e),.inl rfl⟩
  ·have J:∀ j u,xs[j]?=some u->w.cell? ((⟨g,0,none⟩:Addr).add j)=some u:=World.ownsRow.cells E rfl
   obtain⟨o,w',Z,H,r2⟩:=run_append_arg_grows (P:=P) w t ty e i z size bytes ht hi hz hsize hby hzs hsz ⟨g,0,none⟩ n A xs X J a m c news hl hnews vO h63 hbytes
   exact⟨o,w',Z,up H,jae.of_grown r2 (fun r e _=>by cases e),.inr (lo H)⟩
theorem jbZ{ops:Array Oper}{rest:List Oper}{o:Oper}{a:Act}{Q:Exit->Act->vW->Prop}(hgd:o.guard=none)(s x:Operand)(t:TypeId)
  (ho:o.op=.call { callee:=.builtin .append,args:=#[s,x],argTypes:=#[t,t] })
  (e:TypeId) (i:TypeInfo) (z:vV) (size bytes:Nat) (ht:P.underlying t=some (.slice e)) (hi:P.info? e=some i) (hz:i.zero=some z)
  (hsize:i.size=size) (hby:i.bytes=bytes) (hzs:z.cells.size=size) (hsz:0 < size)
  (v:vV) (n:Nat) (xs:List vV) (hs:a.eval s=v) (hown:w.ownsRow 0 e size v n xs)
  (ad:Addr) (m c:Nat) (news:List vV) (hx:a.eval x=.slice (some ad) m c) (hl:news.length=m * size) (hnews:∀ j u,news[j]?=some u->w.cell? (ad.add j)=some u) (h1:∀ u∈news,u.oneCell'=true)
  (h63:n+m<=maxLen) (hbytes:(n+m) * bytes<=140737488355328)
  (h:∀ A w',w'.ownsRow 0 e size A (n+m) (xs++news)->jae (fun b=>v.ownBlock=some b) w w'->(A.ownBlock=v.ownBlock\/∀ b,A.ownBlock=some b->w.heap.size<=b)->wpList P ops Q rest (a.put o.dst A) w'):wpList P ops Q (o :: rest) a w:=by
 refine wpList_plain hgd fun K H=>?_
 obtain⟨A,w',E,J,O,X⟩:=jeh (P:=P) w (t:=t) (ty:=o.type) ht hi hz hsize hby hzs hsz hown (c:=c) hl hnews h1 h63 hbytes
 unfold Oper.wp;simp[execOp,ho,resolve,invoke,builtin,hs,hx,E,Result.andThen];exact H _ _ (h A w' J O X)
theorem jb5{F:Fence}{nf:Nat}{ops:Array Oper}{rest:List Oper}{o:Oper}{a:Act}{Q:Exit->Act->vW->Prop}(hgd:o.guard=none)(s x:Operand)(t:TypeId)
  (ho:o.op=.call { callee:=.builtin .append,args:=#[s,x],argTypes:=#[t,t] })
  (e:TypeId) (i:TypeInfo) (z:vV) (size bytes:Nat) (ht:P.underlying t=some (.slice e)) (hi:P.info? e=some i) (hz:i.zero=some z)
  (hsize:i.size=size) (hby:i.bytes=bytes) (hzs:z.cells.size=size) (hsz:0 < size)
  (v:vV) (n:Nat) (xs:List vV) (hs:a.eval s=v) (hown:w.ownsRow 0 e size v n xs)
  (ad:Addr) (m c:Nat) (news:List vV) (hx:a.eval x=.slice (some ad) m c) (hl:news.length=m * size) (hnews:∀ j u,news[j]?=some u->w.cell? (ad.add j)=some u) (h1:∀ u∈news,u.oneCell'=true)
  (h63:n+m<=maxLen) (hbytes:(n+m) * bytes<=140737488355328)
  (h:∀ A w',w'.ownsRow 0 e size A (n+m) (xs++news)->jae (fun b=>v.ownBlock=some b) w w'->(A.ownBlock=v.ownBlock\/∀ b,A.ownBlock=some b->w.heap.size<=b)->wpListIn F nf P ops Q rest (a.put o.dst A) w'):wpListIn F nf P ops Q (o :: rest) a w:=by
 refine wpListIn_plain hgd fun K J=>?_
 obtain⟨A,w',E,O,X,Z⟩:=jeh (P:=P) w (t:=t) (ty:=o.type) ht hi hz hsize hby hzs hsz hown (c:=c) hl hnews h1 h63 hbytes
 have H:o.semAt F.round a.eval=execOp a.eval o:=by
  cases hr:F.round with
  | none=>rfl
  | some l=>exact Oper.semAt_some l _ o (by rw[ho];intro c hc;cases hc)
 unfold Oper.wpIn;rw[H]
 refine⟨fun f hf=>?_,?_⟩
 ·simp[Oper.about,ho,resolve,Target.leads]at hf
 ·simp[execOp,ho,resolve,invoke,builtin,hs,hx,E,Result.andThen,Oper.uponIn]
  exact J _ _ (h A w' O X Z)
end append
def str(l:vN):vV:=.string ⟨l.toArray⟩
theorem jrN(a b:vN):((⟨a.toArray⟩:vB) ==⟨b.toArray⟩)=decide (a=b):=by
 rw[jen];simp
def jzX{P:Program}{kt:TypeId}(h:P.underlying kt=some .string):ja5 P kt (vN) where
 κ:=str
 desc:=.string
 und:=h
 same:=fun a b=>by simp only[Instr.sameNow,str,jrN]
 check:=fun e a w=>jrS h e _ w 9999
 bits:=fun a=>juL _ 10000
end
