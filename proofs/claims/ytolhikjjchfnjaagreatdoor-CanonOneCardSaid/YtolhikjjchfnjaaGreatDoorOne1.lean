/- Parts of the proof, one behind the other: Heap, Mix, Own, NibbleB. Each is under no condition but those that it states. -/
import Derived.WalkKit
import Derived.RangeFuncWrites
import Derived.RangeFuncLeaves
import Derived.Lib.Hide
import Derived.TacticsIn
import Derived.Deep.Quiet
import Derived.BigQuiet
import Derived.Laws.MakeOwn
import Derived.Laws.BytesString
import Derived.Laws.IdiomStrings
import Derived.Laws.OwnMore
import Derived.Lib.QuietBelow
import Derived.Test.YtolhikjjchfnjaaGreatDoorProg
import Derived.LoopTactic
import Derived.Outline
/- Plain laws on heaps, frames and maps of the model; over any program. -/
namespace Go.Proofs.YtolhikjjchfnjaaGreatDoor
section
open Go Go.RowKit
set_option linter.unusedSimpArgs false
set_option linter.unusedVariables false

abbrev BSet := Nat → Prop

/-- Outside F, of what was there, nothing has turned. -/
structure Keeps (F : BSet) (w w' : World) : Prop where
  os : w'.os = w.os
  tape : w'.tape = w.tape
  output : w'.output = w.output
  size : w.heap.size ≤ w'.heap.size
  block : ∀ b, b < w.heap.size → ¬ F b → w'.heap[b]? = w.heap[b]?

theorem Keeps.refl (F : BSet) (w : World) : Keeps F w w := ⟨rfl, rfl, rfl, Nat.le_refl _, fun _ _ _ => rfl⟩
theorem Keeps.trans' {F G : BSet} {a b c : World} (h : Keeps F a b) (k : Keeps G b c) (hG : ∀ x, x < a.heap.size → G x → F x) : Keeps F a c :=
  ⟨k.os.trans h.os, k.tape.trans h.tape, k.output.trans h.output, Nat.le_trans h.size k.size,
   fun x hx hF => (k.block x (Nat.lt_of_lt_of_le hx h.size) (fun g => hF (hG x hx g))).trans (h.block x hx hF)⟩
theorem Keeps.trans {F : BSet} {a b c : World} (h : Keeps F a b) (k : Keeps F b c) : Keeps F a c := h.trans' k fun _ _ g => g
theorem Keeps.mono {F G : BSet} {a b : World} (h : Keeps F a b) (hG : ∀ x, x < a.heap.size → F x → G x) : Keeps G a b :=
  (Keeps.refl G a).trans' h hG
theorem Keeps.alloc {F : BSet} {a b : World} (h : Keeps F a b) (o : Obj) : Keeps F a (b.alloc o) :=
  h.trans' (G := fun _ => False) ⟨rfl, rfl, rfl, by simp, fun x hx _ => Below.heap_alloc _ _ _ hx⟩ (fun _ _ g => g.elim)
theorem Keeps.drew {F : BSet} {a b : World} (h : Keeps F a b) : Keeps F a b.drew := ⟨h.os, h.tape, h.output, h.size, h.block⟩
theorem Keeps.setCell {F : BSet} {a b : World} (h : Keeps F a b) {p : Addr} (hp : F p.block ∨ a.heap.size ≤ p.block) (u : Value) : Keeps F a (b.setCell p u) :=
  h.trans' (G := fun x => x = p.block) ⟨rfl, rfl, rfl, by simp [World.setCell], fun x _ hx => Below.heap_setCell _ _ _ _ hx⟩ (fun x hx g => by
    subst g; rcases hp with hp | hp
    · exact hp
    · omega)
theorem Keeps.putObj {F : BSet} {a b : World} (h : Keeps F a b) {r : Nat} (hp : F r ∨ a.heap.size ≤ r) (o : Obj) : Keeps F a (b.putObj r o) :=
  h.trans' (G := fun x => x = r) ⟨rfl, rfl, rfl, by simp, fun x _ hx => World.putObj_heap_other hx⟩ (fun x hx g => by
    subst g; rcases hp with hp | hp
    · exact hp
    · omega)
theorem Keeps.onePut (w : World) (r : Nat) (o : Obj) : Keeps (fun b => b = r) w (w.putObj r o) := (Keeps.refl (fun b => b = r) w).putObj (r := r) (.inl (Eq.refl r)) o
theorem Keeps.oneSet (w : World) (p : Addr) (u : Value) : Keeps (fun b => b = p.block) w (w.setCell p u) := (Keeps.refl (fun b => b = p.block) w).setCell (p := p) (.inl (Eq.refl p.block)) u
theorem Keeps.below {F : BSet} {B : Nat} {a b : World} (h : Keeps F a b) (hB : B ≤ a.heap.size) (hF : ∀ x, x < B → ¬ F x) : Below B a b :=
  ⟨h.os, h.tape, h.output, h.size, fun x hx => h.block x (by omega) (hF x hx)⟩
theorem Keeps.of_below {F : BSet} {a b : World} (h : Below a.heap.size a b) : Keeps F a b :=
  ⟨h.os, h.tape, h.output, h.size, fun x hx _ => h.block x hx⟩
theorem Keeps.of_grown {F : BSet} {a b : World} {row : Option Nat} (h : a.grownBy b row) (hr : ∀ r, row = some r → r < a.heap.size → F r) : Keeps F a b :=
  ⟨h.os, h.tape, h.output, h.size, fun x hx hF => h.block x hx (fun e => hF (hr x e.symm hx))⟩

/-- Nothing that was there has turned. -/
abbrev Ext (w w' : World) : Prop := Keeps (fun _ => False) w w'
theorem Ext.toBelow {a b : World} (h : Ext a b) : Below a.heap.size a b := Keeps.below h (Nat.le_refl _) (fun _ _ g => g)

/-- Block b of w is o. -/
def Blk (w : World) (b : Nat) (o : Obj) : Prop := w.heap[b]? = some o
theorem Blk.lt {w : World} {b : Nat} {o : Obj} (h : Blk w b o) : b < w.heap.size := (Array.getElem?_eq_some_iff.1 h).1
theorem Blk.cell {w : World} {b i : Nat} {c : Array Value} {T : TypeId} {fz : Nat × Nat} {v : Value} (h : Blk w b (.cells c T fz)) (hi : c[i]? = some v) : w.cell? ⟨b, i, none⟩ = some v := by
  simp [World.cell?, show w.heap[b]? = _ from h, hi]
theorem Blk.frozen {w : World} {b i : Nat} {c : Array Value} {T : TypeId} (h : Blk w b (.cells c T (0, 0))) : w.frozen? ⟨b, i, none⟩ = false := by
  simp [World.frozen?, show w.heap[b]? = _ from h]
theorem Blk.new (w : World) (o : Obj) : Blk (w.alloc o) w.heap.size o := World.alloc_heap_new w o
theorem Blk.alloc {w : World} {b : Nat} {o : Obj} (h : Blk w b o) (o' : Obj) : Blk (w.alloc o') b o := (Below.heap_alloc w o' b h.lt).trans h
theorem Blk.drew {w : World} {b : Nat} {o : Obj} (h : Blk w b o) : Blk w.drew b o := h
theorem Blk.keeps {F : BSet} {w w' : World} {b : Nat} {o : Obj} (h : Blk w b o) (k : Keeps F w w') (hF : ¬ F b) : Blk w' b o := (k.block b h.lt hF).trans h
theorem Blk.set_other {w : World} {b : Nat} {o : Obj} (h : Blk w b o) {p : Addr} (hp : b ≠ p.block) (u : Value) : Blk (w.setCell p u) b o := (Below.heap_setCell w p u b hp).trans h
theorem Blk.set_same {w : World} {b i : Nat} {c : Array Value} {T : TypeId} {fz : Nat × Nat} (h : Blk w b (.cells c T fz)) (u : Value) : Blk (w.setCell ⟨b, i, none⟩ u) b (.cells (c.setIfInBounds i u) T fz) := by
  simp only [Blk, World.setCell, Array.getElem?_modify]
  simp [show w.heap[b]? = _ from h]
theorem Blk.put_other {w : World} {b r : Nat} {o : Obj} (h : Blk w b o) (hr : b ≠ r) (o' : Obj) : Blk (w.putObj r o') b o := (World.putObj_heap_other hr).trans h
theorem Blk.put_same {w : World} {b : Nat} {o : Obj} (h : Blk w b o) (o' : Obj) : Blk (w.putObj b o') b o' := World.putObj_heap_same h.lt
theorem Blk.uniq {w : World} {b : Nat} {o o' : Obj} (h : Blk w b o) (h' : Blk w b o') : o = o' := by
  have e : w.heap[b]? = some o := h
  rw [show w.heap[b]? = some o' from h'] at e
  simpa using e.symm

theorem Blk.setCells {b : Nat} {T : TypeId} {fz : Nat × Nat} : ∀ (vs : List Value) (o : Nat) (w : World) (c : List Value), Blk w b (.cells c.toArray T fz) → o + vs.length ≤ c.length →
    Blk (w.setCells b o vs) b (.cells (c.take o ++ vs ++ c.drop (o + vs.length)).toArray T fz)
  | [], o, w, c, h, _ => by simpa [World.setCells] using h
  | v :: r, o, w, c, h, hl => by
    simp only [List.length_cons] at hl
    have h1 := h.set_same (i := o) v
    have h2 : (c.toArray.setIfInBounds o v) = (c.set o v).toArray := by simp
    rw [h2] at h1
    have h3 := Blk.setCells r (o + 1) _ _ h1 (by simp; omega)
    simp only [World.setCells]
    have e1 : (c.set o v).take (o + 1) = c.take o ++ [v] := by
      rw [List.take_succ_eq_append_getElem (by simp; omega), List.take_set_of_le (Nat.le_refl o)]
      simp
    have e2 : (c.set o v).drop (o + 1 + r.length) = c.drop (o + (v :: r).length) := by
      rw [List.drop_set_of_lt (by omega)]
      congr 1; simp; omega
    rw [e1, e2] at h3
    simpa using h3
theorem Blk.setCells_other {w : World} {b b' : Nat} {obj : Obj} (h : Blk w b obj) (hb : b ≠ b') : ∀ (vs : List Value) (o : Nat), Blk (w.setCells b' o vs) b obj := by
  intro vs; induction vs generalizing w with
  | nil => exact fun _ => h
  | cons v r ih => exact fun o => ih (h.set_other (p := ⟨b', o, none⟩) hb v) (o + 1)
theorem Keeps.oneSetCells (b : Nat) : ∀ (vs : List Value) (o : Nat) (w : World), Keeps (fun x => x = b) w (w.setCells b o vs)
  | [], _, w => Keeps.refl _ w
  | v :: r, o, w => (Keeps.oneSet w ⟨b, o, none⟩ v).trans (Keeps.oneSetCells b r (o + 1) _)
theorem size_setCells' (b : Nat) : ∀ (vs : List Value) (o : Nat) (w : World), (w.setCells b o vs).heap.size = w.heap.size
  | [], _, _ => rfl
  | v :: r, o, w => by simp [World.setCells, size_setCells' b r]
theorem Blk.cellL {w : World} {b i : Nat} {c : List Value} {T : TypeId} {fz : Nat × Nat} {v : Value} (h : Blk w b (.cells c.toArray T fz)) (hi : c[i]? = some v) : w.cell? ⟨b, i, none⟩ = some v :=
  h.cell (by simpa using hi)

theorem nodup_map_inj {α β : Type} {f : α → β} : ∀ {l : List α}, (l.map f).Nodup → ∀ {x y : α}, x ∈ l → y ∈ l → f x = f y → x = y
  | [], _, _, _, hx, _, _ => by cases hx
  | z :: r, h, x, y, hx, hy, e => by
    simp only [List.map_cons, List.nodup_cons] at h
    rcases List.mem_cons.1 hx with hx1 | hx1
    · rcases List.mem_cons.1 hy with hy1 | hy1
      · rw [hx1, hy1]
      · exact absurd (List.mem_map.2 ⟨y, hy1, by rw [← e, hx1]⟩) h.1
    · rcases List.mem_cons.1 hy with hy1 | hy1
      · exact absurd (List.mem_map.2 ⟨x, hx1, by rw [e, hy1]⟩) h.1
      · exact nodup_map_inj h.2 hx1 hy1 e
theorem perm_of_mem_iff {α : Type} [BEq α] [LawfulBEq α] {l m : List α} (hl : l.Nodup) (hm : m.Nodup) (h : ∀ a, a ∈ l ↔ a ∈ m) : l.Perm m := by
  rw [List.perm_iff_count]
  intro a
  have c1 := List.nodup_iff_count.1 hl a
  have c2 := List.nodup_iff_count.1 hm a
  by_cases ha : a ∈ l
  · have := List.count_pos_iff.2 ha
    have := List.count_pos_iff.2 ((h a).1 ha)
    omega
  · rw [List.count_eq_zero.2 ha, List.count_eq_zero.2 (fun h' => ha ((h a).2 h'))]

section maps
/-- How keys of a map's type stand as values. -/
structure KeyEnc (P : Program) (kt : TypeId) (K : Type) [DecidableEq K] where
  κ : K → Value
  desc : TypeDesc
  und : P.underlying kt = some desc
  same : ∀ a b, Instr.sameNow desc (κ a) (κ b) = some (decide (a = b))
  check : ∀ e a w, (Instr.checkKey e 10000 kt (κ a)).run P w = .ok () w
  bits : ∀ a, Instr.sameBits 10000 (κ a) (κ a) = true

variable {P : Program} {kt : TypeId} {K : Type} [DecidableEq K]

/-- An entry: its key, its value, its stamp. -/
abbrev Ent (K : Type) := K × Value × Nat
def KeyEnc.mk1 (E : KeyEnc P kt K) (x : Ent K) : MapEntry := { key := E.κ x.1, val := x.2.1, born := x.2.2 }
def KeyEnc.arr (E : KeyEnc P kt K) (l : List (Ent K)) : Array MapEntry := (l.map E.mk1).toArray
/-- The value of a key. -/
def entGet (l : List (Ent K)) (k : K) : Option Value := (l.find? (fun x => decide (k = x.1))).map (·.2.1)
def entPut (l : List (Ent K)) (k : K) (v : Value) (n : Nat) : List (Ent K) :=
  match l with
  | [] => [(k, v, n)]
  | x :: r => if k = x.1 then (k, v, x.2.2) :: r else x :: entPut r k v n
def entDel (l : List (Ent K)) (k : K) : List (Ent K) :=
  match l with
  | [] => []
  | x :: r => if k = x.1 then r else x :: entDel r k

theorem KeyEnc.findNow (E : KeyEnc P kt K) (k : K) : ∀ (l : List (Ent K)) (i : Nat),
    Instr.findNow E.desc (E.κ k) (l.map E.mk1) i = some ((l.findIdx? (fun x => decide (k = x.1))).bind fun j => (l[j]?).map fun x => (i + j, x.2.1))
  | [], i => rfl
  | x :: r, i => by
    simp only [List.map_cons, Instr.findNow, KeyEnc.mk1, E.same, List.findIdx?_cons]
    by_cases h : k = x.1
    · simp [h]
    · simp only [h, decide_false, KeyEnc.findNow E k r (i + 1)]
      cases hj : r.findIdx? (fun x => decide (k = x.1)) with
      | none => simp
      | some j => simp [Nat.add_assoc, Nat.add_comm 1 j]

theorem findKey_run (E : KeyEnc P kt K) (k : K) (l : List (Ent K)) (w : World) :
    (Instr.findKey kt (E.κ k) (E.arr l).toList).run P w = .ok ((l.findIdx? (fun x => decide (k = x.1))).bind fun j => (l[j]?).map fun x => (j, x.2.1)) w := by
  simp [Instr.findKey, KeyEnc.arr, Sem.run_bind, Result.andThen, run_underlying E.und, E.findNow k l 0]

theorem entGet_idx (l : List (Ent K)) (k : K) : entGet l k = (l.findIdx? (fun x => decide (k = x.1))).bind fun j => (l[j]?).map (·.2.1) := by
  induction l with
  | nil => rfl
  | cons x r ih =>
    simp only [entGet, List.find?_cons, List.findIdx?_cons]
    by_cases h : k = x.1
    · simp [h]
    · simp only [h, decide_false]
      simp only [entGet] at ih
      rw [ih]
      cases r.findIdx? (fun x => decide (k = x.1)) <;> simp

/-- 'm[k]', with 'ok' or without. -/
theorem run_lookup (E : KeyEnc P kt K) {t e : TypeId} (ht : P.underlying t = some (.map kt e)) {w : World} {b : Nat} {l : List (Ent K)} {clock : Nat}
    (hb : Blk w b (.map (E.arr l) clock)) {z : Value} (hz : (zeroValue e).run P w = .ok z w) (k : K) (ok : Bool) :
    (Instr.lookup t (.map (some b)) (E.κ k) ok).run P w = .ok (if ok then .tuple #[(entGet l k).getD z, .bool (entGet l k).isSome] else (entGet l k).getD z) w := by
  have hg : (getObj b).run P w = .ok (.map (E.arr l) clock) w := by simp [getObj, Sem.run, show w.heap[b]? = _ from hb]
  have hf := findKey_run E k l w
  simp only [Instr.lookup, Sem.run_bind, Result.andThen, run_underlying ht, hg, E.check, hf]
  rw [entGet_idx]
  cases hj : l.findIdx? (fun x => decide (k = x.1)) with
  | none => rw [hj] at hf; cases ok <;> simp [Sem.run_bind, Result.andThen, hz, hf]
  | some j =>
    obtain ⟨hlt, _⟩ := List.findIdx?_eq_some_iff_getElem.1 hj
    rw [hj] at hf; cases ok <;> simp [Sem.run_bind, Result.andThen, hlt, hf]

theorem KeyEnc.modify (E : KeyEnc P kt K) (k : K) (v : Value) (n : Nat) : ∀ (l : List (Ent K)) (j : Nat), l.findIdx? (fun x => decide (k = x.1)) = some j →
    ((l.map E.mk1).toArray.modify j fun e => { e with key := E.κ k, val := v }) = E.arr (entPut l k v n)
  | [], j, h => by simp at h
  | x :: r, j, h => by
    rw [List.findIdx?_cons] at h
    by_cases hk : k = x.1
    · simp only [hk, decide_true, if_true, Option.some.injEq] at h
      subst h
      simp [KeyEnc.arr, entPut, hk, KeyEnc.mk1, List.modify_toArray]
    · simp only [hk, decide_false, Bool.false_eq_true, if_false, Option.map_eq_some_iff] at h
      obtain ⟨i, hi, rfl⟩ := h
      have := KeyEnc.modify E k v n r i hi
      simp only [KeyEnc.arr, List.modify_toArray] at this
      simp only [KeyEnc.arr, entPut, hk, if_false, List.map_cons, List.modify_toArray, List.modify_succ_cons]
      simpa using this

/-- 'm[k] = v'. -/
theorem run_mapUpdate (E : KeyEnc P kt K) {t e : TypeId} (ht : P.underlying t = some (.map kt e)) {w : World} {b : Nat} {l : List (Ent K)} {clock : Nat}
    (hb : Blk w b (.map (E.arr l) clock)) (k : K) (v : Value) :
    (Instr.mapUpdate t (.map (some b)) (E.κ k) v).run P w = .ok () (w.putObj b (.map (E.arr (entPut l k v clock)) (if (entGet l k).isSome then clock else clock + 1))) := by
  have hg : (getObj b).run P w = .ok (.map (E.arr l) clock) w := by simp [getObj, Sem.run, show w.heap[b]? = _ from hb]
  have hs : ∀ o, (setObj b o).run P w = .ok () (w.putObj b o) := by intro o; simp [setObj, Sem.run, show w.heap[b]? = _ from hb, World.putObj]
  have hf := findKey_run E k l w
  simp only [Instr.mapUpdate, Sem.run_bind, Result.andThen, run_underlying ht, hg, E.check, hf]
  rw [entGet_idx]
  cases hj : l.findIdx? (fun x => decide (k = x.1)) with
  | none =>
    have hp : (E.arr l).push { key := E.κ k, val := v, born := clock } = E.arr (entPut l k v clock) := by
      have : ∀ l : List (Ent K), l.findIdx? (fun x => decide (k = x.1)) = none → entPut l k v clock = l ++ [(k, v, clock)] := by
        intro l
        induction l with
        | nil => intro _; rfl
        | cons x r ih =>
          intro h
          rw [List.findIdx?_cons] at h
          by_cases hk : k = x.1
          · simp [hk] at h
          · simp only [hk, decide_false, Bool.false_eq_true, if_false, Option.map_eq_none_iff] at h
            simp [entPut, hk, ih h]
      rw [this l hj]
      simp [KeyEnc.arr, KeyEnc.mk1]
    simp [hs, hp]
  | some j =>
    obtain ⟨hlt, hpk, _⟩ := List.findIdx?_eq_some_iff_getElem.1 hj
    have hkk : k = l[j].1 := by simpa using hpk
    have hm := KeyEnc.modify E k v clock l j hj
    have hkey : (((E.arr l)[j]?).map (·.key)).getD (E.κ k) = E.κ k := by simp [KeyEnc.arr, hlt, KeyEnc.mk1, ← hkk]
    simp only [Option.bind_some, List.getElem?_eq_getElem hlt, Option.map_some, Option.isSome_some, if_true]
    simp only [Sem.run_bind, Result.andThen, hkey, Instr.keyThatStays, E.bits, if_true]
    simp only [KeyEnc.arr] at hm hs ⊢
    rw [← hm]
    simp [Sem.run, hs]

/-- 'delete(m, k)'. -/
theorem run_delete (E : KeyEnc P kt K) {t e : TypeId} (ht : P.underlying t = some (.map kt e)) {w : World} {b : Nat} {l : List (Ent K)} {clock : Nat}
    (hb : Blk w b (.map (E.arr l) clock)) (k : K) (kt' r : TypeId) :
    (Builtin.delete_ #[t, kt'] r #[.map (some b), E.κ k]).run P w = .ok (.tuple #[]) (w.putObj b (.map (E.arr (entDel l k)) clock)) := by
  have hg : (getObj b).run P w = .ok (.map (E.arr l) clock) w := by simp [getObj, Sem.run, show w.heap[b]? = _ from hb]
  have hs : ∀ o, (setObj b o).run P w = .ok () (w.putObj b o) := by intro o; simp [setObj, Sem.run, show w.heap[b]? = _ from hb, World.putObj]
  have hf := findKey_run E k l w
  have h0 : ∀ l : List (Ent K), l.findIdx? (fun x => decide (k = x.1)) = none → entDel l k = l := by
    intro l
    induction l with
    | nil => intro _; rfl
    | cons x r ih =>
      intro h
      rw [List.findIdx?_cons] at h
      by_cases hk : k = x.1
      · simp [hk] at h
      · simp only [hk, decide_false, Bool.false_eq_true, if_false, Option.map_eq_none_iff] at h
        simp [entDel, hk, ih h]
  have h1 : ∀ (l : List (Ent K)) (j : Nat), l.findIdx? (fun x => decide (k = x.1)) = some j → l.eraseIdx j = entDel l k := by
    intro l
    induction l with
    | nil => intro j h; simp at h
    | cons x r ih =>
      intro j h
      rw [List.findIdx?_cons] at h
      by_cases hk : k = x.1
      · simp only [hk, decide_true, if_true, Option.some.injEq] at h
        subst h; simp [entDel, hk]
      · simp only [hk, decide_false, Bool.false_eq_true, if_false, Option.map_eq_some_iff] at h
        obtain ⟨i, hi, rfl⟩ := h
        simp [entDel, hk, ih i hi]
  simp only [Builtin.delete_, Sem.run_bind, Result.andThen, run_underlying ht, List.getElem?_toArray, List.getElem?_cons_zero, List.getElem?_cons_succ, hg, E.check, hf]
  cases hj : l.findIdx? (fun x => decide (k = x.1)) with
  | none => simp [hs, h0 l hj, Sem.run, Sem.run_bind, Result.andThen]
  | some j =>
    obtain ⟨hlt, _⟩ := List.findIdx?_eq_some_iff_getElem.1 hj
    have he : (E.arr l).eraseIdxIfInBounds j = E.arr (entDel l k) := by
      rw [← h1 l j hj]
      have hm : ∀ (l : List (Ent K)) (j : Nat), (l.map E.mk1).eraseIdx j = (l.eraseIdx j).map E.mk1 := by
        intro l; induction l with
        | nil => intro j; rfl
        | cons x r ih => intro j; cases j with
          | zero => rfl
          | succ j => simp [ih j]
      simp [KeyEnc.arr, Array.eraseIdxIfInBounds, hlt, hm]
    simp [hlt, hs, he, Sem.run, Sem.run_bind, Result.andThen]
theorem run_len_map (E : KeyEnc P kt K) {t e : TypeId} (ht : P.underlying t = some (.map kt e)) {w : World} {b : Nat} {l : List (Ent K)} {clock : Nat} (hb : Blk w b (.map (E.arr l) clock)) (r : TypeId) :
    (Builtin.len_ #[t] r #[.map (some b)]).run P w = .ok (.int .i64 l.length) w := by
  have hg : (getObj b).run P w = .ok (.map (E.arr l) clock) w := by simp [getObj, Sem.run, show w.heap[b]? = _ from hb]
  simp [Builtin.len_, Sem.run_bind, Result.andThen, run_underlying ht, hg, KeyEnc.arr, goInt]

/-- The entries that a range has not come to yet. -/
def entLeft (l : List (Ent K)) (seen : Array Nat) : List (Ent K) := l.filter fun x => !seen.contains x.2.2

/-- 'for k := range m', its start. -/
theorem run_range (E : KeyEnc P kt K) {t e : TypeId} (ht : P.underlying t = some (.map kt e)) {w : World} {b : Nat} {l : List (Ent K)} {clock : Nat} (hb : Blk w b (.map (E.arr l) clock)) :
    (Instr.range t (.map (some b))).run P w = .ok (.pointer (some ⟨w.heap.size, 0, none⟩)) (w.alloc (.mapIter (some b) clock #[] clock)) := by
  have hg : (getObj b).run P w = .ok (.map (E.arr l) clock) w := by simp [getObj, Sem.run, show w.heap[b]? = _ from hb]
  simp [Instr.range, Sem.run_bind, Result.andThen, run_underlying ht, hg]

/-- .. one step of it: there is none left, or one of those that are left, whichever. -/
theorem run_next (E : KeyEnc P kt K) {w : World} {b r : Nat} {l : List (Ent K)} {clock : Nat} {seen : Array Nat} (hb : Blk w b (.map (E.arr l) clock))
    (hr : Blk w r (.mapIter (some b) clock seen clock)) (hlt : ∀ x ∈ l, x.2.2 < clock) (T : TypeId) :
    (entLeft l seen = [] ∧ (Instr.next (.pointer (some ⟨r, 0, none⟩)) false T).run P w = .ok (.tuple #[.bool false]) w) ∨
    (∃ x ∈ entLeft l seen, ∃ w', (Instr.next (.pointer (some ⟨r, 0, none⟩)) false T).run P w = .ok (.tuple #[.bool true, E.κ x.1, x.2.1]) w' ∧
      Blk w' r (.mapIter (some b) clock (seen.push x.2.2) clock) ∧ Keeps (fun z => z = r) w w') := by
  have hg : ∀ w0, Blk w0 b (.map (E.arr l) clock) → (getObj b).run P w0 = .ok (.map (E.arr l) clock) w0 := fun w0 hb => by simp [getObj, Sem.run, show w0.heap[b]? = _ from hb]
  have hgr : (getObj r).run P w = .ok (.mapIter (some b) clock seen clock) w := by simp [getObj, Sem.run, show w.heap[r]? = _ from hr]
  have hall : (!seen.isEmpty && !(E.arr l).isEmpty && (E.arr l).all (fun x => decide (x.born ≥ clock))) = false := by
    cases l with
    | nil => simp [KeyEnc.arr]
    | cons x rest =>
      have := hlt x (List.mem_cons_self ..)
      have h2 : (E.arr (x :: rest)).all (fun x => decide (x.born ≥ clock)) = false := by
        rw [Bool.eq_false_iff]; intro hc
        rw [Array.all_eq_true_iff_forall_mem] at hc
        have := hc (E.mk1 x) (by simp [KeyEnc.arr])
        simp [KeyEnc.mk1] at this; omega
      rw [h2]; simp
  have hleft : (E.arr l).filter (fun e => !seen.contains e.born) = E.arr (entLeft l seen) := by
    simp only [KeyEnc.arr, entLeft, List.filter_toArray, List.filter_map]; rfl
  have hold : (E.arr (entLeft l seen)).filter (fun x => decide (x.born < clock)) = E.arr (entLeft l seen) := by
    simp only [KeyEnc.arr, List.filter_toArray, List.filter_map]
    congr 2
    rw [List.filter_eq_self]
    intro x hx
    have : x ∈ l := (List.mem_filter.1 hx).1
    exact decide_eq_true (hlt x this)
  have hnew : (E.arr (entLeft l seen)).filter (fun x => decide (x.born ≥ clock)) = #[] := by
    simp only [KeyEnc.arr, List.filter_toArray, List.filter_map]
    have : (entLeft l seen).filter ((fun x => decide (x.born ≥ clock)) ∘ E.mk1) = [] := by
      rw [List.filter_eq_nil_iff]
      intro x hx
      have h1 : x ∈ l := (List.mem_filter.1 hx).1
      have h2 := hlt x h1
      show ¬ decide (x.2.2 ≥ clock) = true
      simp only [ge_iff_le, decide_eq_true_eq]; omega
    rw [this]; rfl
  by_cases h0 : entLeft l seen = []
  · left
    refine ⟨h0, ?_⟩
    simp only [Instr.next, Sem.run_bind, Result.andThen, hgr, hg w hb, hall, Bool.false_eq_true, if_false, hleft, hold, hnew, h0]
    simp [KeyEnc.arr, choose, Sem.run, Question.forced, Sem.run_bind, Result.andThen]
  · right
    have hs : ∀ w0 o, Blk w0 r (.mapIter (some b) clock seen clock) → (setObj r o).run P w0 = .ok () (w0.putObj r o) := by
      intro w0 o h; simp [setObj, Sem.run, show w0.heap[r]? = _ from h, World.putObj]
    have hne : (E.arr (entLeft l seen)).isEmpty = false := by
      simp only [KeyEnc.arr, List.isEmpty_toArray, List.isEmpty_map]
      cases hh : entLeft l seen with
      | nil => exact absurd hh h0
      | cons _ _ => rfl
    have hpos : 0 < (entLeft l seen).length := List.length_pos_iff.2 h0
    have pick : ∀ (i : Nat) (hi : i < (entLeft l seen).length) (w0 : World), Blk w0 r (.mapIter (some b) clock seen clock) →
        Sem.run P (match (#[] ++ (E.arr (entLeft l seen) ++ #[]).map some)[i]? with
          | some (some e) => do setObj r (.mapIter (some b) clock (seen.push e.born) clock); pure (Value.tuple #[.bool true, e.key, e.val])
          | some none => pure (Value.tuple #[.bool false])
          | none => stuck "Next: no such candidate") w0 =
        .ok (.tuple #[.bool true, E.κ (entLeft l seen)[i].1, (entLeft l seen)[i].2.1]) (w0.putObj r (.mapIter (some b) clock (seen.push (entLeft l seen)[i].2.2) clock)) := by
      intro i hi w0 h0'
      have e1 : (#[] ++ (E.arr (entLeft l seen) ++ #[]).map some)[i]? = some (some (E.mk1 (entLeft l seen)[i])) := by
        simp [KeyEnc.arr, hi]
      rw [e1]
      simp [Sem.run_bind, Result.andThen, hs w0 _ h0', KeyEnc.mk1, Sem.run]
    have hsz : (#[] ++ (E.arr (entLeft l seen) ++ #[]).map some).size = (entLeft l seen).length := by simp [KeyEnc.arr]
    simp only [Instr.next, Sem.run_bind, Result.andThen, hgr, hg w hb, hall, Bool.false_eq_true, if_false, hleft, hold, hnew, hne]
    by_cases h1 : (entLeft l seen).length ≤ 1
    · refine ⟨(entLeft l seen)[0], List.getElem_mem _, _, ?_, hr.put_same _, Keeps.onePut w r _⟩
      have hp := pick 0 hpos w hr
      simp only [choose, Sem.run, Question.forced, hsz, h1, decide_true, if_true]
      exact hp
    · have hi : w.tape w.drawn (.mapNext (entLeft l seen).length) % (entLeft l seen).length < (entLeft l seen).length := Nat.mod_lt _ hpos
      refine ⟨(entLeft l seen)[w.tape w.drawn (.mapNext (entLeft l seen).length) % (entLeft l seen).length], List.getElem_mem _, _, ?_, hr.drew.put_same _, ((Keeps.refl _ w).drew).trans (Keeps.onePut w.drew r _)⟩
      have hp := pick _ hi w.drew hr
      simp only [choose, Sem.run, Question.forced, hsz, h1, decide_false, Bool.false_eq_true, if_false, Question.cut]
      exact hp

/-- .. its key and its value, at the round's head. -/
theorem run_entry (E : KeyEnc P kt K) {w : World} {b r : Nat} {l : List (Ent K)} {clock since : Nat} {seen : Array Nat} (hb : Blk w b (.map (E.arr l) clock))
    {x : Ent K} (hx : x ∈ l) (hr : Blk w r (.mapIter (some b) since (seen.push x.2.2) clock)) (hnd : (l.map (·.2.2)).Nodup) :
    (Instr.entry (.pointer (some ⟨r, 0, none⟩))).run P w = .ok (.tuple #[E.κ x.1, x.2.1]) w := by
  have hg : (getObj b).run P w = .ok (.map (E.arr l) clock) w := by simp [getObj, Sem.run, show w.heap[b]? = _ from hb]
  have hgr : (getObj r).run P w = .ok (.mapIter (some b) since (seen.push x.2.2) clock) w := by simp [getObj, Sem.run, show w.heap[r]? = _ from hr]
  have hf : (E.arr l).find? (fun e => e.born == x.2.2) = some (E.mk1 x) := by
    have : ∀ l : List (Ent K), x ∈ l → (l.map (·.2.2)).Nodup → (l.map E.mk1).find? (fun e => e.born == x.2.2) = some (E.mk1 x) := by
      intro l
      induction l with
      | nil => intro h; cases h
      | cons y r ih =>
        intro hx hn
        simp only [List.map_cons, List.nodup_cons] at hn
        rw [List.map_cons, List.find?_cons]
        rcases List.mem_cons.1 hx with rfl | hx
        · simp [KeyEnc.mk1]
        · have hne : y.2.2 ≠ x.2.2 := fun e => hn.1 (e ▸ List.mem_map_of_mem (f := fun z : Ent K => z.2.2) hx)
          have hb' : ((E.mk1 y).born == x.2.2) = false := by simpa [KeyEnc.mk1] using hne
          rw [hb']
          exact ih hx hn.2
    simpa [KeyEnc.arr] using this l hx hnd
  simp [Instr.entry, Sem.run_bind, Result.andThen, hgr, hg, hf, KeyEnc.mk1]
end maps

theorem check_int {P : Program} {kt : TypeId} {q : IntKind} (h : P.underlying kt = some (.int q)) (e : Bool) (a : Int) (w : World) (n : Nat) :
    (Instr.checkKey e (n + 1) kt (.int q a)).run P w = .ok () w := by
  simp [Instr.checkKey, Sem.run_bind, Result.andThen, run_underlying h]
theorem check_str {P : Program} {kt : TypeId} (h : P.underlying kt = some .string) (e : Bool) (a : ByteArray) (w : World) (n : Nat) :
    (Instr.checkKey e (n + 1) kt (.string a)).run P w = .ok () w := by
  simp [Instr.checkKey, Sem.run_bind, Result.andThen, run_underlying h]
theorem bits_int (q : IntKind) (a : Int) (n : Nat) : Instr.sameBits n (.int q a) (.int q a) = true := by
  cases n <;> simp [Instr.sameBits]
theorem ba_beq (a b : ByteArray) : (a == b) = decide (a = b) := by
  show ByteArray.beq a b = _
  cases a; cases b
  simp only [ByteArray.beq, ByteArray.mk.injEq]
  rw [Bool.eq_iff_iff]; simp
theorem bits_str (a : ByteArray) (n : Nat) : Instr.sameBits n (.string a) (.string a) = true := by
  cases n <;> simp [Instr.sameBits, ba_beq]

def keyInt {P : Program} {kt : TypeId} {q : IntKind} (h : P.underlying kt = some (.int q)) : KeyEnc P kt Int where
  κ := fun n => .int q n
  desc := .int q
  und := h
  same := fun a b => by simp [Instr.sameNow]; rfl
  check := fun e a w => check_int h e a w 9999
  bits := fun a => bits_int q a 10000

theorem news_new (w : World) (T : TypeId) (news : List Value) : ∀ j u, news[j]? = some u → (w.alloc (.cells news.toArray T)).cell? ((⟨w.heap.size, 0, none⟩ : Addr).add j) = some u := by
  intro j u hj
  rw [Addr.add_lit, Nat.zero_add]
  exact (Blk.new w (.cells news.toArray T)).cellL hj
theorem row_one {w : World} {e : TypeId} {size : Nat} {v : Value} {n : Nat} {xs : List Value} {B : Nat} (h : w.ownsRow B e size v n xs) : v.oneCell' = true := by
  obtain ⟨_, ⟨e, _⟩ | ⟨_, _, _, e, _⟩⟩ := h <;> rw [e] <;> rfl

theorem one_cells {v : Value} (h : v.oneCell' = true) : v.cells = #[v] := by
  cases v <;> first | rfl | (simp [Value.oneCell'] at h)

theorem store_one {P : Program} (a : Addr) (W : World) (v : Value) : (storeCells a [v]).run P W = (store a v).run P W := by
  have ha : a.add 0 = a := by unfold Addr.add; simp
  simp only [storeCells, Sem.run_bind, ha]
  cases (store a v).run P W <;> rfl

theorem store_at {P : Program} {W : World} {b i : Nat} {c : Array Value} {T : TypeId} (h : Blk W b (.cells c T)) (hi : i < c.size) {v : Value} (hv : v.oneCell' = true) :
    (storeCells ⟨b, i, none⟩ [v]).run P W = .ok () (W.setCell ⟨b, i, none⟩ v) := by
  rw [store_one, run_store P W _ v _ hv, h.cell (Array.getElem?_eq_getElem hi), h.frozen]
  rfl

theorem row_slice {w : World} {e : TypeId} {size : Nat} {v : Value} {n : Nat} {xs : List Value} {B : Nat} (h : w.ownsRow B e size v n xs) : ∃ a c, v = .slice a n c := by
  obtain ⟨_, ⟨e, rfl⟩ | ⟨g, c, _, e, _⟩⟩ := h
  · exact ⟨none, 0, e⟩
  · exact ⟨_, c, e⟩

section append
variable {P : Program} (w : World)
/-- append onto a row of one's own: what comes out, with or without room; the old row's block, or a new one. -/
theorem run_append_any {t ty e : TypeId} {i : TypeInfo} {z : Value} {size bytes : Nat} (ht : P.underlying t = some (.slice e)) (hi : P.info? e = some i) (hz : i.zero = some z)
    (hsize : i.size = size) (hby : i.bytes = bytes) (hzs : z.cells.size = size) (hsz : 0 < size)
    {v : Value} {n : Nat} {xs : List Value} (hown : w.ownsRow 0 e size v n xs)
    {a : Addr} {m c : Nat} {news : List Value} (hl : news.length = m * size) (hnews : ∀ j u, news[j]? = some u → w.cell? (a.add j) = some u) (h1 : ∀ u ∈ news, u.oneCell' = true)
    (h63 : n + m ≤ maxLen) (hbytes : (n + m) * bytes ≤ 140737488355328) :
    ∃ v' w', (Builtin.append_ #[t, t] ty #[v, .slice (some a) m c]).run P w = .ok v' w' ∧ w'.ownsRow 0 e size v' (n + m) (xs ++ news) ∧ Keeps (fun b => v.ownBlock = some b) w w' ∧
      (v'.ownBlock = v.ownBlock ∨ ∀ b, v'.ownBlock = some b → w.heap.size ≤ b) := by
  have up : ∀ {B : Nat} {w' : World} {v' : Value} {k : Nat} {ys : List Value}, w'.ownsRow B e size v' k ys → w'.ownsRow 0 e size v' k ys := by
    rintro B w' v' k ys ⟨h1, h2 | ⟨g, cap, cur, h2, _, h3⟩⟩
    · exact ⟨h1, .inl h2⟩
    · exact ⟨h1, .inr ⟨g, cap, cur, h2, Nat.zero_le _, h3⟩⟩
  have lo : ∀ {B : Nat} {w' : World} {v' : Value} {k : Nat} {ys : List Value}, w'.ownsRow B e size v' k ys → ∀ b, v'.ownBlock = some b → B ≤ b := by
    intro B w' v' k ys h b hb
    exact (World.ownsRow.lt h b hb).1
  have hown' := hown
  obtain ⟨hxl, ⟨rfl, rfl⟩ | ⟨g, cap, cur, rfl, _, hg, hnc, hcm, hcs, hct⟩⟩ := hown
  · obtain ⟨v', w', hr, r1, r2, _⟩ := run_append_own (P := P) w w.heap.size t ty e i z size bytes ht hi hz hsize hby hzs hsz (.slice none 0 0) 0 xs ⟨hxl, .inl ⟨rfl, rfl⟩⟩ a m c news hl hnews h1 h63 hbytes (Nat.le_refl _)
    exact ⟨v', w', hr, up r1, Keeps.of_grown r2 (fun r e _ => e), .inr (lo r1)⟩
  · by_cases hroom : n + m ≤ cap
    · obtain ⟨w', hr, r1, r2⟩ := run_append_fits (P := P) w 0 t ty e i size ht hi hsize g n cap xs hown' a m c news hl hnews h1 hroom
      exact ⟨_, w', hr, r1, Keeps.of_grown r2 (fun r e _ => e), .inl rfl⟩
    · have holds : ∀ j u, xs[j]? = some u → w.cell? ((⟨g, 0, none⟩ : Addr).add j) = some u := World.ownsRow.cells hown' rfl
      obtain ⟨v', w', hr, r1, r2⟩ := run_append_arg_grows (P := P) w t ty e i z size bytes ht hi hz hsize hby hzs hsz ⟨g, 0, none⟩ n cap xs hxl holds a m c news hl hnews (by omega) h63 hbytes
      exact ⟨v', w', hr, up r1, Keeps.of_grown r2 (fun r e _ => by cases e), .inr (lo r1)⟩

/-- At an operation of a plain region. -/
theorem wpList_append_any {ops : Array Oper} {rest : List Oper} {o : Oper} {a : Act} {Q : Exit → Act → World → Prop} (hgd : o.guard = none) (s x : Operand) (t : TypeId)
    (ho : o.op = .call { callee := .builtin .append, args := #[s, x], argTypes := #[t, t] })
    (e : TypeId) (i : TypeInfo) (z : Value) (size bytes : Nat) (ht : P.underlying t = some (.slice e)) (hi : P.info? e = some i) (hz : i.zero = some z)
    (hsize : i.size = size) (hby : i.bytes = bytes) (hzs : z.cells.size = size) (hsz : 0 < size)
    (v : Value) (n : Nat) (xs : List Value) (hs : a.eval s = v) (hown : w.ownsRow 0 e size v n xs)
    (ad : Addr) (m c : Nat) (news : List Value) (hx : a.eval x = .slice (some ad) m c) (hl : news.length = m * size) (hnews : ∀ j u, news[j]? = some u → w.cell? (ad.add j) = some u) (h1 : ∀ u ∈ news, u.oneCell' = true)
    (h63 : n + m ≤ maxLen) (hbytes : (n + m) * bytes ≤ 140737488355328)
    (h : ∀ v' w', w'.ownsRow 0 e size v' (n + m) (xs ++ news) → Keeps (fun b => v.ownBlock = some b) w w' → (v'.ownBlock = v.ownBlock ∨ ∀ b, v'.ownBlock = some b → w.heap.size ≤ b) → wpList P ops Q rest (a.put o.dst v') w') : wpList P ops Q (o :: rest) a w := by
  refine wpList_plain hgd fun K hK' => ?_
  obtain ⟨v', w', hrun, r1, r2, r3⟩ := run_append_any (P := P) w (t := t) (ty := o.type) ht hi hz hsize hby hzs hsz hown (c := c) hl hnews h1 h63 hbytes
  unfold Oper.wp
  simp [execOp, ho, resolve, invoke, builtin, hs, hx, hrun, Result.andThen]
  exact hK' _ _ (h v' w' r1 r2 r3)

/-- At an operation of a region that draws its order. -/
theorem step_append_any {ops : Array Oper} {o : Oper} {a : Act} {K : Act → World → Prop} {Q : Exit → Act → World → Prop} {E : Prop}
    (hgd : o.guard = none) (s x : Operand) (t : TypeId) (ho : o.op = Op.call { callee := Callee.builtin Builtin.append, args := #[s, x], argTypes := #[t, t] })
    (e : TypeId) (i : TypeInfo) (z : Value) (size bytes : Nat) (ht : P.underlying t = some (.slice e)) (hi : P.info? e = some i) (hz : i.zero = some z)
    (hsize : i.size = size) (hby : i.bytes = bytes) (hzs : z.cells.size = size) (hsz : 0 < size)
    (v : Value) (n : Nat) (xs : List Value) (hs : a.eval s = v) (hown : w.ownsRow 0 e size v n xs)
    (ad : Addr) (m c : Nat) (news : List Value) (hx : a.eval x = .slice (some ad) m c) (hl : news.length = m * size) (hnews : ∀ j u, news[j]? = some u → w.cell? (ad.add j) = some u) (h1 : ∀ u ∈ news, u.oneCell' = true)
    (h63 : n + m ≤ maxLen) (hbytes : (n + m) * bytes ≤ 140737488355328)
    (h : ∀ v' w', w'.ownsRow 0 e size v' (n + m) (xs ++ news) → Keeps (fun b => v.ownBlock = some b) w w' → (v'.ownBlock = v.ownBlock ∨ ∀ b, v'.ownBlock = some b → w.heap.size ≤ b) → K (a.put o.dst v') w') :
    if Region.wanted o (yielded ops a.tmps) = true then Oper.wp P o a w K Q else E := by
  have hw : Region.wanted o (yielded ops a.tmps) = true := by simp [Region.wanted, hgd]
  rw [if_pos hw]
  obtain ⟨v', w', hrun, r1, r2, r3⟩ := run_append_any (P := P) w (t := t) (ty := o.type) ht hi hz hsize hby hzs hsz hown (c := c) hl hnews h1 h63 hbytes
  unfold Oper.wp
  simp [execOp, ho, resolve, invoke, builtin, hs, hx, hrun, Result.andThen]
  exact h v' w' r1 r2 r3

/-- At an operation of a plain region within a fence. -/
theorem wpListIn_append_any {F : Fence} {nf : Nat} {ops : Array Oper} {rest : List Oper} {o : Oper} {a : Act} {Q : Exit → Act → World → Prop} (hgd : o.guard = none) (s x : Operand) (t : TypeId)
    (ho : o.op = .call { callee := .builtin .append, args := #[s, x], argTypes := #[t, t] })
    (e : TypeId) (i : TypeInfo) (z : Value) (size bytes : Nat) (ht : P.underlying t = some (.slice e)) (hi : P.info? e = some i) (hz : i.zero = some z)
    (hsize : i.size = size) (hby : i.bytes = bytes) (hzs : z.cells.size = size) (hsz : 0 < size)
    (v : Value) (n : Nat) (xs : List Value) (hs : a.eval s = v) (hown : w.ownsRow 0 e size v n xs)
    (ad : Addr) (m c : Nat) (news : List Value) (hx : a.eval x = .slice (some ad) m c) (hl : news.length = m * size) (hnews : ∀ j u, news[j]? = some u → w.cell? (ad.add j) = some u) (h1 : ∀ u ∈ news, u.oneCell' = true)
    (h63 : n + m ≤ maxLen) (hbytes : (n + m) * bytes ≤ 140737488355328)
    (h : ∀ v' w', w'.ownsRow 0 e size v' (n + m) (xs ++ news) → Keeps (fun b => v.ownBlock = some b) w w' → (v'.ownBlock = v.ownBlock ∨ ∀ b, v'.ownBlock = some b → w.heap.size ≤ b) → wpListIn F nf P ops Q rest (a.put o.dst v') w') : wpListIn F nf P ops Q (o :: rest) a w := by
  refine wpListIn_plain hgd fun K hK' => ?_
  obtain ⟨v', w', hrun, r1, r2, r3⟩ := run_append_any (P := P) w (t := t) (ty := o.type) ht hi hz hsize hby hzs hsz hown (c := c) hl hnews h1 h63 hbytes
  have hsem : o.semAt F.round a.eval = execOp a.eval o := by
    cases hr : F.round with
    | none => rfl
    | some l => exact Oper.semAt_some l _ o (by rw [ho]; intro c hc; cases hc)
  unfold Oper.wpIn
  rw [hsem]
  refine ⟨fun f hf => ?_, ?_⟩
  · simp [Oper.about, ho, resolve, Target.leads] at hf
  · simp [execOp, ho, resolve, invoke, builtin, hs, hx, hrun, Result.andThen, Oper.uponIn]
    exact hK' _ _ (h v' w' r1 r2 r3)
end append

/-- A string of these bytes. -/
def str (l : List UInt8) : Value := .string ⟨l.toArray⟩

theorem bytes_beq (a b : List UInt8) : ((⟨a.toArray⟩ : ByteArray) == ⟨b.toArray⟩) = decide (a = b) := by
  rw [ba_beq]; simp

def keyStr {P : Program} {kt : TypeId} (h : P.underlying kt = some .string) : KeyEnc P kt (List UInt8) where
  κ := str
  desc := .string
  und := h
  same := fun a b => by simp only [Instr.sameNow, str, bytes_beq]
  check := fun e a w => check_str h e _ w 9999
  bits := fun a => bits_str _ 10000
end
end Go.Proofs.YtolhikjjchfnjaaGreatDoor
/- A law for regions that draw their order: quiet operations of a class of worlds, and operations that stand alone. Over any program. -/
namespace Go.Proofs.YtolhikjjchfnjaaGreatDoor
section
open Go Go.RowKit
set_option linter.unusedSimpArgs false
set_option linter.unusedVariables false

theorem cfalse {k : Nat} {l : List Nat} : l.contains k = false ↔ k ∉ l := by simp
section mix
variable {P : Program} {l : List Oper} {E : World → World → Prop}

abbrev NoQ : Exit → Act → World → Prop := fun _ _ _ => False

/-- One value in every world from w on; the world goes along E. -/
def qUpon (P : Program) (E : World → World → Prop) (w : World) (v : Value) : Result Next → Prop
  | .ok (.value u) w' => w' = w ∧ u = v
  | .ok .skip w' => w' = w ∧ v = undef
  | .ok (.enter f args) w' => w' = w ∧ Calls P f args w (fun e w'' => e = .returned v ∧ E w w'')
  | _ => False

def YieldsE (P : Program) (ops : Array Oper) (E : World → World → Prop) (w : World) (o : Oper) (v : Value) (a : Act) : Prop :=
  (Region.wanted o (yielded ops a.tmps) = true ∧ ∀ w1, E w w1 → qUpon P E w1 v ((execOp a.eval o).run P w1)) ∨ (Region.wanted o (yielded ops a.tmps) = false ∧ v = undef)

theorem YieldsE.of_same {ops : Array Oper} {w : World} {o : Oper} {v : Value} {a a' : Act} (hy : YieldsE P ops E w o v a) (he : execOp a'.eval o = execOp a.eval o)
    (hw : Region.wanted o (yielded ops a'.tmps) = Region.wanted o (yielded ops a.tmps)) : YieldsE P ops E w o v a' := by
  unfold YieldsE at *; rw [he, hw]; exact hy
theorem YieldsE.st (hT : ∀ x y z, E x y → E y z → E x z) {ops : Array Oper} {w w1 : World} {o : Oper} {v : Value} {a : Act} (hy : YieldsE P ops E w o v a) (h : E w w1) : YieldsE P ops E w1 o v a :=
  hy.imp (fun ⟨h1, h2⟩ => ⟨h1, fun w2 h' => h2 w2 (hT _ _ _ h h')⟩) id

def anyM (P : Program) (ops : Array Oper) (hd : List Nat) (E : World → World → Prop) (Q : Act → World → Prop) : Nat → Array Bool → Act → World → Prop
  | 0, listed, a, w => ∀ w1, E w w1 → Region.ready .any ops listed = [] ∧ Q a w1
  | fuel + 1, listed, a, w => ∀ w1, E w w1 →
    (Region.ready .any ops listed = [] → Q a w1) ∧
    ∀ i ∈ Region.ready .any ops listed, wpOp P ops NoQ i (fun a' w' => (i ∉ hd → E w1 w') ∧ anyM P ops hd E Q fuel (listed.setIfInBounds i true) a' w') a w1

theorem anyM_st (hT : ∀ x y z, E x y → E y z → E x z) {ops : Array Oper} {hd : List Nat} {Q : Act → World → Prop} : ∀ (fuel : Nat) (listed : Array Bool) (a : Act) (w w1 : World), anyM P ops hd E Q fuel listed a w → E w w1 → anyM P ops hd E Q fuel listed a w1
  | 0, _, _, _, _, h, he => fun w2 h2 => h w2 (hT _ _ _ he h2)
  | _ + 1, _, _, _, _, h, he => fun w2 h2 => h w2 (hT _ _ _ he h2)

theorem wpOp_noQ {ops : Array Oper} {Q : Exit → Act → World → Prop} {i : Nat} {K K' : Act → World → Prop} {a : Act} {w : World} (hK : ∀ a w, K a w → K' a w) (h : wpOp P ops NoQ i K a w) : wpOp P ops Q i K' a w := by
  unfold wpOp at *
  split
  · rename_i ho; simp only [ho] at h; exact hK _ _ h
  · rename_i o ho
    simp only [ho] at h
    split
    · rename_i hw
      simp only [hw, if_true] at h
      rcases h with h | ⟨_, _, _, h⟩
      · refine .inl ?_
        unfold Oper.wp at *
        generalize (execOp a.eval o).run P w = r at *
        cases r with
        | ok n w' =>
          cases n <;> simp only [Oper.upon] at h ⊢ <;>
            first
              | exact hK _ _ h
              | exact Calls.mono h (fun e w'' he => by
                  cases e with
                  | returned v => exact hK _ _ he
                  | panicked c => exact (he : False).elim
                  | outgrown => obtain ⟨_, _, hf⟩ := he; exact (hf : False).elim)
              | exact Rows.mono h (fun _ _ he => hK _ _ he)
        | halt x w' => cases x <;> simp only [Oper.upon] at h ⊢ <;> exact (h : False).elim
      · exact h.elim
    · rename_i hw; simp only [hw] at h; exact hK _ _ h

theorem anyM_sound (hE : ∀ w, E w w) {ops : Array Oper} {hd : List Nat} {Q : Act → World → Prop} {Q' : Exit → Act → World → Prop} (hQ : ∀ a w, Q a w → Q' .normal a w) :
    ∀ (fuel : Nat) (listed : Array Bool) (a : Act) (w : World), anyM P ops hd E Q fuel listed a w → wpAny P .any ops Q' fuel listed a w
  | 0, _, _, w, h => let ⟨h1, h2⟩ := h w (hE w); ⟨h1, hQ _ _ h2⟩
  | fuel + 1, _, _, w, h => let ⟨h1, h2⟩ := h w (hE w)
    ⟨fun h0 => hQ _ _ (h1 h0), fun i hi => wpOp_noQ (fun a' w' ⟨_, h'⟩ => anyM_sound hE hQ fuel _ a' w' h') (h2 i hi)⟩

/-- An operation that yields, carried out. -/
theorem YieldsE.wpOp {ops : Array Oper} {i : Nat} {o : Oper} {v : Value} {a : Act} {w : World} (hi : ops[i]? = some o) (hy : YieldsE P ops E w o v a) {K : Act → World → Prop} {w1 : World} (h1 : E w w1) (hE : ∀ w, E w w)
    (h : ∀ w', E w1 w' → K (a.put o.dst v) w') : wpOp P ops NoQ i K a w1 := by
  unfold Go.wpOp
  simp only [hi]
  rcases hy with ⟨hw, hv⟩ | ⟨hw, rfl⟩
  · simp only [hw, if_true]
    refine .inl ?_
    have h3 := hv w1 h1
    unfold Oper.wp
    generalize (execOp a.eval o).run P w1 = r at *
    cases r with
    | ok n w' =>
      cases n <;> simp only [qUpon] at h3 <;> simp only [Oper.upon]
      case value u => obtain ⟨e1, e2⟩ := h3; rw [e1, e2]; exact h _ (hE w1)
      case skip => obtain ⟨e1, e2⟩ := h3; rw [e1, ← e2]; exact h _ (hE w1)
      case enter f args =>
        obtain ⟨e1, hcc⟩ := h3; rw [e1]
        exact hcc.mono fun e w'' ⟨he, h1⟩ => by subst he; exact h _ h1
    | halt x w' => simp only [qUpon] at h3
  · simp only [hw, Bool.false_eq_true, if_false]; exact h _ (hE w1)

theorem wpOp_putE {ops : Array Oper} {j : Nat} {oi oj : Oper} {v : Value} (hj : ops[j]? = some oj) (hap : oi.apart ops oj = true)
    (hsi : ∀ cs b, oi.op ≠ .select cs b) (hsj : ∀ cs b, oj.op ≠ .select cs b) {K : Act → World → Prop} {Y : Act → Prop} {a : Act} {w : World}
    (hY : ∀ a a', Y a → execOp a'.eval oi = execOp a.eval oi → Region.wanted oi (yielded ops a'.tmps) = Region.wanted oi (yielded ops a.tmps) → Y a')
    (hy : Y a) (h : wpOp P ops NoQ j K (a.put oi.dst v) w) :
    wpOp P ops NoQ j (fun a' w' => Y a' ∧ K (a'.put oi.dst v) w') a w := by
  obtain ⟨h1, h2, h3⟩ := Oper.apart_spec hap
  have keep : ∀ (a : Act), Y a → ∀ u, Y (a.put oj.dst u) := fun a hy u =>
    hY _ _ hy (execOp_put oi hsi a oj.dst u h3) (wanted_put oi a oj.dst u h3)
  have keepD : ∀ d, Y { a with defers := d :: a.defers } := fun d => hY _ _ hy rfl rfl
  unfold wpOp at *
  simp only [hj] at *
  rw [wanted_put oj a oi.dst v h1] at h
  split
  · rename_i hw
    simp only [hw, if_true] at h
    rcases h with h | ⟨_, _, _, hf⟩
    case inr => exact hf.elim
    refine .inl ?_
    unfold Oper.wp at *
    rw [execOp_put oj hsj a oi.dst v h1] at h
    generalize (execOp a.eval oj).run P w = r at *
    cases r with
    | ok n w' =>
      cases n <;> simp only [Oper.upon] at h ⊢
      case value u => exact ⟨keep a hy u, by rw [← Act.put_comm a v u h2]; exact h⟩
      case skip => exact ⟨keep a hy _, by rw [← Act.put_comm a v undef h2]; exact h⟩
      case defer d =>
        refine ⟨keep _ (keepD d) _, ?_⟩
        rw [← Act.put_comm _ v undef h2, ← Act.put_defers]
        exact h
      case enter f args =>
        refine Calls.mono h fun e w'' he => ?_
        cases e with
        | returned u => exact ⟨keep a hy u, by rw [← Act.put_comm a v u h2]; exact he⟩
        | panicked c => exact he
        | outgrown => exact he
      case row row args => exact Rows.mono h fun u w'' he => ⟨keep a hy u, by rw [← Act.put_comm a v u h2]; exact he⟩
    | halt x w' =>
      cases x <;> simp only [Oper.upon] at h ⊢ <;> exact h
  · rename_i hw
    simp only [hw] at h
    exact ⟨keep a hy _, by rw [← Act.put_comm a v undef h2]; exact h⟩

/-- 'Waits' of every operation of hd that has not been: it waits for i. -/
def waitsAll (ops : Array Oper) (hd : List Nat) (listed : Array Bool) (i : Nat) : Bool :=
  hd.all fun j => listed.getD j true || match ops[j]? with | some oj => oj.after.any (fun e => Region.binds .any e && e.on == i) | none => true

theorem anyM_first (hE : ∀ w, E w w) (hT : ∀ x y z, E x y → E y z → E x z) {ops : Array Oper} {hd : List Nat} {Q : Act → World → Prop} {i : Nat} {oi : Oper} {v : Value} (hi : ops[i]? = some oi) (hsel : ∀ (j : Nat) (o : Oper) cs b, ops[j]? = some o → o.op ≠ .select cs b) (hih : i ∉ hd) :
    ∀ (fuel : Nat) (listed : Array Bool) (a : Act) (w : World),
      (∀ j oj, ops[j]? = some oj → j ≠ i → listed.getD j true = false → (∀ e ∈ oj.after, Region.binds .any e = true → e.on ≠ i) → oi.apart ops oj = true) →
      i ∈ Region.ready .any ops listed → YieldsE P ops E w oi v a →
      ((∀ j oj, ops[j]? = some oj → j ∈ hd → listed.getD j true = false → ∃ e ∈ oj.after, Region.binds .any e = true ∧ e.on = i) ∨ ∀ w' a', execOp a'.eval oi = execOp a.eval oi → Region.wanted oi (yielded ops a'.tmps) = Region.wanted oi (yielded ops a.tmps) → YieldsE P ops E w' oi v a') →
      anyM P ops hd E Q fuel (listed.setIfInBounds i true) (a.put oi.dst v) w → anyM P ops hd E Q (fuel + 1) listed a w := by
  intro fuel
  induction fuel with
  | zero =>
    intro listed a w _ hr hy _ H w1 he
    refine ⟨fun h => (by rw [h] at hr; cases hr), fun j hj => ?_⟩
    by_cases hji : j = i
    · subst hji; exact hy.wpOp hi he hE (fun w' h1 => ⟨fun _ => h1, anyM_st hT _ _ _ _ _ H (hT _ _ _ he h1)⟩)
    · have := ready_mono hj hji
      rw [(H w1 he).1] at this
      cases this
  | succ fuel ih =>
    intro listed a w hfree hr hy hwt H w1 he
    refine ⟨fun h => (by rw [h] at hr; cases hr), fun j hj => ?_⟩
    by_cases hji : j = i
    · subst hji; exact hy.wpOp hi he hE (fun w' h1 => ⟨fun _ => h1, anyM_st hT _ _ _ _ _ H (hT _ _ _ he h1)⟩)
    · have h1 := (H w1 he).2 j (ready_mono hj hji)
      obtain ⟨hjun, oj, hoj, hall⟩ := mem_ready.1 hj
      have hun : ∀ b, listed.getD i b = false ∨ True := fun _ => .inr trivial
      have hnot : ∀ e ∈ oj.after, Region.binds .any e = true → e.on ≠ i := fun e he hb heq => by
        have h1 := hall e he hb
        have h0 := (mem_ready.1 hr).1
        rw [heq] at h1
        rcases Nat.lt_or_ge i listed.size with h' | h'
        · simp [h'] at h0 h1; rw [h0] at h1; cases h1
        · simp [Array.getElem?_eq_none h'] at h1
      have h2 := wpOp_putE (v := v) (Y := fun a' => execOp a'.eval oi = execOp a.eval oi ∧ Region.wanted oi (yielded ops a'.tmps) = Region.wanted oi (yielded ops a.tmps)) hoj (hfree j oj hoj hji hjun hnot) (fun cs b => hsel i oi cs b hi) (fun cs b => hsel j oj cs b hoj)
        (fun a1 a2 h e1 e2 => ⟨e1.trans h.1, e2.trans h.2⟩) ⟨rfl, rfl⟩ h1
      have hfree' : ∀ k ok, ops[k]? = some ok → k ≠ i → (listed.setIfInBounds j true).getD k true = false →
          (∀ e ∈ ok.after, Region.binds .any e = true → e.on ≠ i) → oi.apart ops ok = true := fun k ok hk hki hun hno => by
        refine hfree k ok hk hki ?_ hno
        by_cases hjk : j = k
        · subst hjk; exact hjun
        · rw [getD_set_ne true hjk] at hun; exact hun
      refine wpOp_mono (fun a' w' h3 => ⟨h3.2.1, ?_⟩) h2
      obtain ⟨⟨e1, e2⟩, h4, h5⟩ := h3
      have hyn : YieldsE P ops E w' oi v a' := by
        rcases hwt with hwt | hall'
        · have hjh : j ∉ hd := fun hjh => by
            obtain ⟨e, he, hb, hon⟩ := hwt j oj hoj hjh hjun
            exact hnot e he hb hon
          exact (hy.of_same e1 e2).st hT (hT _ _ _ he (h4 hjh))
        · exact hall' w' a' e1 e2
      refine ih (listed.setIfInBounds j true) a' w' hfree' (ready_mono hr (Ne.symm hji)) hyn ?_ ?_
      · refine hwt.imp (fun hwt k ok hk hkh hun => hwt k ok hk hkh ?_) (fun hall' w2 a2 e3 e4 => hall' w2 a2 (e3.trans e1) (e4.trans e2))
        by_cases hjk : j = k
        · subst hjk; exact hjun
        · rw [getD_set_ne true hjk] at hun; exact hun
      · rw [Array.setIfInBounds_comm _ _ hji]
        exact h5

/-- What has been. -/
def marks (l : List Oper) (done : List Nat) : Array Bool := done.foldr (fun k b => b.setIfInBounds k true) (Array.replicate l.toArray.size false)

/-- The walk in an order of one's own: 'ord' what is still to come, 'done' what has been, 'hd' the operations that stand alone. -/
def Mix (P : Program) (l : List Oper) (hd : List Nat) (E : World → World → Prop) (Q : Act → World → Prop) : List Nat → List Nat → Act → World → Prop
  | [], done, a, w => ∀ w1, E w w1 → Region.ready .any l.toArray (marks l done) = [] ∧ Q a w1
  | k :: ord, done, a, w =>
    (k ∉ hd ∧ k ∈ Region.ready .any l.toArray (marks l done) ∧ Region.free .any l.toArray (marks l done) k = true ∧ ∃ o v, l[k]? = some o ∧ YieldsE P l.toArray E w o v a ∧
      (waitsAll l.toArray hd (marks l done) k = true ∨ ∀ w' a', execOp a'.eval o = execOp a.eval o → Region.wanted o (yielded l.toArray a'.tmps) = Region.wanted o (yielded l.toArray a.tmps) → YieldsE P l.toArray E w' o v a') ∧ Mix P l hd E Q ord (k :: done) (a.put o.dst v) w) ∨
    (Region.ready .any l.toArray (marks l done) = [k] ∧ k ∈ hd ∧ ∀ w1, E w w1 → wpOp P l.toArray NoQ k (fun a' w' => Mix P l hd E Q ord (k :: done) a' w') a w1)

theorem anyM_of_mix (hE : ∀ w, E w w) (hT : ∀ x y z, E x y → E y z → E x z) (hs : Region.noSelect l.toArray = true) {hd : List Nat} {Q : Act → World → Prop} : ∀ (ord : List Nat) (done : List Nat) (a : Act) (w : World),
    Mix P l hd E Q ord done a w → anyM P l.toArray hd E Q ord.length (marks l done) a w
  | [], _, _, _, h => h
  | k :: ord, done, a, w, h => by
    rcases h with ⟨hk, hr, hf, o, v, ho, hy, hwt, h⟩ | ⟨hr, hk, h⟩
    · have ho' : l.toArray[k]? = some o := by simpa using ho
      refine anyM_first hE hT ho' (Region.noSelect_spec hs) hk ord.length (marks l done) a w (Region.free_spec ho' hf) hr hy (hwt.imp (fun hw j oj hj hjh hun => ?_) id) (anyM_of_mix hE hT hs ord _ _ _ h)
      have := List.all_eq_true.1 hw j hjh
      simp only [hun, Bool.false_or, hj] at this
      obtain ⟨e, he, hb⟩ := Array.any_eq_true'.1 this
      simp only [Bool.and_eq_true, beq_iff_eq] at hb
      exact ⟨e, he, hb.1, hb.2⟩
    · intro w1 he
      refine ⟨fun h0 => (by rw [hr] at h0; cases h0), fun i hi => ?_⟩
      rw [hr] at hi
      obtain rfl : i = k := by simpa using hi
      exact wpOp_mono (fun a' w' h2 => ⟨fun hn => absurd hk hn, anyM_of_mix hE hT hs ord _ _ _ h2⟩) (h w1 he)

theorem wp_region_mix (ord hd : List Nat) (E : World → World → Prop) (hE : ∀ w, E w w) (hT : ∀ x y z, E x y → E y z → E x z) {id : Nat} {Q : Exit → Act → World → Prop} {a : Act} {w : World}
    (hm : P.follows .mixedOrders = true) (hs : Region.noSelect l.toArray = true) (hl : ord.length = l.toArray.size)
    (h : Mix P l hd E (fun a w => Q .normal a w) ord [] a w.drew) : (Code.region id l.toArray true).wp P Q a w := by
  refine wp_region_any hm ?_
  rw [← hl]
  have := anyM_of_mix hE hT hs ord _ _ _ h
  unfold marks at this
  rw [hl] at this ⊢
  exact anyM_sound hE (fun _ _ h => h) _ _ _ _ this

/-! The steps. -/
def isPure : Op → Bool
  | .call c => match c.callee with | .builtin .len => true | .builtin .min => true | .builtin .max => true | _ => false
  | .move _ | .assign _ | .pick .. | .build .. | .load .. | .binOp .. | .unOp .. | .convert .. | .slice .. | .fieldAddr .. | .field .. | .indexAddr .. | .index .. | .extract .. | .lookup .. | .makeFunc .. | .makeInterface .. | .typeAssert .. => true
  | _ => false

def NoEnter (s : Sem Next) : Prop := ∀ (P : Program) (w w' : World) (f : FuncId) (args : Array Value), s.run P w ≠ .ok (.enter f args) w'
theorem NoEnter.bind {α : Type} {s : Sem α} {k : α → Sem Next} (h : ∀ x, NoEnter (k x)) : NoEnter (s >>= k) := by
  intro P w w' f args
  rw [Sem.run_bind]
  cases s.run P w with
  | ok x w1 => exact h x P w1 w' f args
  | halt x w1 => simp [Result.andThen]
theorem NoEnter.value (v : Value) : NoEnter (pure (.value v)) := by intro P w w' f args; simp [Sem.run_pure]
theorem NoEnter.rp (e : RuntimeError) : NoEnter (runtimePanic e) := by
  intro P w w' f args h
  have : ∀ v : Value, NoEnter (goPanic v) := by intro v P w w' f args; simp [goPanic, Sem.run]
  unfold runtimePanic at h
  cases e <;> first | exact NoEnter.bind (fun _ => this _) P w w' f args h | (refine NoEnter.bind (fun _ => NoEnter.bind (fun _ => this _)) P w w' f args h)
theorem pure_no {ρ : Operand → Value} {o : Oper} (h : isPure o.op = true) : NoEnter (execOp ρ o) := by
  unfold execOp
  cases ho : o.op <;> rw [ho] at h <;> simp only [isPure, Bool.false_eq_true] at h
  case move => exact NoEnter.value _
  case assign => exact NoEnter.value _
  case pick => exact NoEnter.bind fun _ => NoEnter.value _
  case call c =>
    obtain ⟨callee, as, ts⟩ := c
    cases callee with
    | builtin b =>
      intro P w w' f args
      simp only [resolve, Sem.run_bind, Sem.run_pure, Result.andThen, invoke]
      cases b <;> simp only [Bool.false_eq_true] at h <;> exact (NoEnter.bind fun _ => NoEnter.value _) P w w' f args
    | value f => simp at h
    | invoke r m => simp at h
  all_goals exact NoEnter.bind fun _ => NoEnter.value _

variable {Q : Act → World → Prop} {ord done hd : List Nat} {a : Act} {w : World} {k : Nat} {o : Oper}

def headOk (l : List Oper) (hd done : List Nat) (k : Nat) : Bool := !hd.contains k && (Region.ready .any l.toArray (marks l done)).contains k && Region.free .any l.toArray (marks l done) k
def readOk (l : List Oper) (hd done : List Nat) (k : Nat) : Bool := headOk l hd done k && waitsAll l.toArray hd (marks l done) k
def aloneOk (l : List Oper) (hd done : List Nat) (k : Nat) : Bool := Region.ready .any l.toArray (marks l done) == [k] && hd.contains k

/-- An operation that yields one value in whatever world: reckoned by the kit's quiet step over all worlds. -/
theorem mix_pure (o : Oper) (ho : l[k]? = some o) (hk : headOk l hd done k = true) (hw : Region.wanted o (yielded l.toArray a.tmps) = true) (hq : isPure o.op = true)
    (h : ∀ K : Act → Prop, (∀ a', Mix P l hd E Q ord (k :: done) a' w → K a') → o.quiet P a (fun _ => True) K) : Mix P l hd E Q (k :: ord) done a w := by
  simp only [headOk, Bool.and_eq_true, List.contains_iff_mem, Bool.not_eq_true', cfalse] at hk
  obtain ⟨v, h1, h2⟩ := h _ (fun _ h => h)
  have key : ∀ w' a', execOp a'.eval o = execOp a.eval o → Region.wanted o (yielded l.toArray a'.tmps) = Region.wanted o (yielded l.toArray a.tmps) → YieldsE P l.toArray E w' o v a' := by
    refine fun w' a' e1 e2 => .inl ⟨e2.trans hw, fun w1 _ => ?_⟩
    rw [e1]
    have h3 := h1 w1 trivial
    unfold Oper.quietAt at h3
    have h4 := fun f args w' => pure_no (ρ := a.eval) hq P w1 w' f args
    generalize (execOp a.eval o).run P w1 = r at *
    cases r with
    | ok n w' => cases n <;> simp only [Oper.quietUpon] at h3 <;> first | exact h3 | exact absurd rfl (h4 _ _ _)
    | halt x w' => simp only [Oper.quietUpon] at h3
  exact .inl ⟨hk.1.1, hk.1.2, hk.2, o, v, ho, key w a rfl rfl, .inr key, h2⟩

/-- An operation whose value, in each world from here on, is known. -/
theorem mix_val (o : Oper) (v : Value) (ho : l[k]? = some o) (hk : readOk l hd done k = true) (hw : Region.wanted o (yielded l.toArray a.tmps) = true)
    (hv : ∀ w1, E w w1 → (execOp a.eval o).run P w1 = .ok (.value v) w1) (h : Mix P l hd E Q ord (k :: done) (a.put o.dst v) w) : Mix P l hd E Q (k :: ord) done a w := by
  simp only [readOk, headOk, Bool.and_eq_true, List.contains_iff_mem, Bool.not_eq_true', cfalse] at hk
  exact .inl ⟨hk.1.1.1, hk.1.1.2, hk.1.2, o, v, ho, .inl ⟨hw, fun w1 hc => by rw [hv w1 hc]; exact ⟨rfl, rfl⟩⟩, .inl hk.2, h⟩

/-- A load of one cell. -/
theorem mix_load (p : Addr) (v : Value) {t : TypeId} {x : Operand} {d : Option Tmp} {ty : TypeId} {pos : String} {af : Array Edge} {g : Option (Nat × Bool)} (ho : l[k]? = some ⟨d, .load t x, ty, pos, af, g⟩) (hk : readOk l hd done k = true)
    (hw : Region.wanted ⟨d, .load t x, ty, pos, af, g⟩ (yielded l.toArray a.tmps) = true) (hx : a.eval x = .pointer (some p))
    (hv : ∀ w1, E w w1 → (Instr.loadAt t (.pointer (some p))).run P w1 = .ok v w1) (h : Mix P l hd E Q ord (k :: done) (a.put d v) w) : Mix P l hd E Q (k :: ord) done a w := by
  refine mix_val _ v ho hk hw (fun w1 hc => ?_) h
  have := hv w1 hc
  simp only [execOp, hx, Sem.run_bind, this, Result.andThen, Sem.run_pure]

theorem mix_skip (o : Oper) (ho : l[k]? = some o) (hk : headOk l hd done k = true) (hw : Region.wanted o (yielded l.toArray a.tmps) = false)
    (h : Mix P l hd E Q ord (k :: done) (a.put o.dst undef) w) : Mix P l hd E Q (k :: ord) done a w := by
  simp only [headOk, Bool.and_eq_true, List.contains_iff_mem, Bool.not_eq_true', cfalse] at hk
  exact .inl ⟨hk.1.1, hk.1.2, hk.2, o, undef, ho, .inr ⟨hw, rfl⟩, .inr (fun w' a' e1 e2 => .inr ⟨e2.trans hw, rfl⟩), h⟩

/-- A call whose answer, in each world from here on, is known. -/
theorem mix_call (o : Oper) (f : FuncId) (args : Array Value) (v : Value) (ho : l[k]? = some o) (hk : readOk l hd done k = true) (hw : Region.wanted o (yielded l.toArray a.tmps) = true)
    (hv : ∀ w1, (execOp a.eval o).run P w1 = .ok (.enter f args) w1) (hc : ∀ w1, E w w1 → Calls P f args w1 (fun e w2 => e = .returned v ∧ E w1 w2))
    (h : Mix P l hd E Q ord (k :: done) (a.put o.dst v) w) : Mix P l hd E Q (k :: ord) done a w := by
  simp only [readOk, headOk, Bool.and_eq_true, List.contains_iff_mem, Bool.not_eq_true', cfalse] at hk
  exact .inl ⟨hk.1.1.1, hk.1.1.2, hk.1.2, o, v, ho, .inl ⟨hw, fun w1 hw1 => by rw [hv w1]; exact ⟨rfl, hc w1 hw1⟩⟩, .inl hk.2, h⟩

/-- An operation that stands alone. -/
theorem mix_hard (o : Oper) (ho : l[k]? = some o) (hk : aloneOk l hd done k = true) (hw : Region.wanted o (yielded l.toArray a.tmps) = true)
    (h : ∀ w1, E w w1 → ∀ K : Act → World → Prop, (∀ a' w', Mix P l hd E Q ord (k :: done) a' w' → K a' w') → o.wp P a w1 K NoQ) : Mix P l hd E Q (k :: ord) done a w := by
  simp only [aloneOk, Bool.and_eq_true, beq_iff_eq, List.contains_iff_mem] at hk
  refine .inr ⟨hk.1, hk.2, fun w1 he => ?_⟩
  unfold wpOp
  have ho' : l.toArray[k]? = some o := by simpa using ho
  simp only [ho', hw, if_true]
  exact .inl (h w1 he _ (fun _ _ h1 => h1))

theorem mix_end (hk : (Region.ready .any l.toArray (marks l done)).isEmpty = true) (h : ∀ w1, E w w1 → Q a w1) : Mix P l hd E Q [] done a w :=
  fun w1 he => ⟨by simpa using hk, h w1 he⟩

theorem wp_value {K : Act → World → Prop} {Q : Exit → Act → World → Prop} {v : Value} {w' : World} (hr : (execOp a.eval o).run P w = .ok (.value v) w') (h : K (a.put o.dst v) w') : o.wp P a w K Q := by
  unfold Oper.wp; rw [hr]; exact h
end mix
end
end Go.Proofs.YtolhikjjchfnjaaGreatDoor
/- Rows of one's own, rows that are read; what a region's single operations do. Over any program. -/
namespace Go.Proofs.YtolhikjjchfnjaaGreatDoor
section
open Go Go.RowKit
set_option linter.unusedSimpArgs false
set_option linter.unusedVariables false

theorem ExtR (w : World) : Ext w w := Keeps.refl _ w
theorem ExtT (x y z : World) (h : Ext x y) (k : Ext y z) : Ext x z := h.trans k
theorem Keeps.drewN {F : BSet} {a b : World} (h : Keeps F a b) (n : Nat) : Keeps F a (b.drewN n) := ⟨h.os, h.tape, h.output, h.size, h.block⟩

/-- A row of one's own stays one's own as long as its block stays. -/
theorem own_keeps {F : BSet} {w w' : World} {B : Nat} {T : TypeId} {sz : Nat} {v : Value} {n : Nat} {xs : List Value} (h : w.ownsRow B T sz v n xs) (k : Keeps F w w') (hF : ∀ b, v.ownBlock = some b → ¬ F b) : w'.ownsRow B T sz v n xs := by
  obtain ⟨h1, h2 | ⟨g, cap, cur, h2, h3, h4, h5⟩⟩ := h
  · exact ⟨h1, .inl h2⟩
  · have hlt : g < w.heap.size := (Array.getElem?_eq_some_iff.1 h4).1
    exact ⟨h1, .inr ⟨g, cap, cur, h2, h3, (k.block g hlt (hF g (by rw [h2]; rfl))).trans h4, h5⟩⟩
theorem own_ext {w w' : World} {B : Nat} {T : TypeId} {sz : Nat} {v : Value} {n : Nat} {xs : List Value} (h : w.ownsRow B T sz v n xs) (k : Ext w w') : w'.ownsRow B T sz v n xs := own_keeps h k (fun _ _ h => h)

/-- From base on: nothing that was there then has turned; and the row's block is none of those. -/
theorem ext_of_row {w0 w w' : World} {v : Value} (h : Ext w0 w) (hb : ∀ b, v.ownBlock = some b → w0.heap.size ≤ b) (k : Keeps (fun b => v.ownBlock = some b) w w') : Ext w0 w' :=
  h.trans' k (fun x hx e => by have := hb x e; omega)

theorem cell_ext {w w' : World} {p : Addr} {v : Value} (h : w.cell? p = some v) (k : Ext w w') : w'.cell? p = some v := by
  have hlt := World.block_lt_of_cell? w p h
  have := k.block p.block hlt (fun h => h)
  unfold World.cell? at *
  rw [this]; exact h
theorem drewE (w : World) : Ext w w.drew := (ExtR w).drew

section
variable {P : Program} (w : World)
theorem wp_append_any {o : Oper} {a : Act} {K : Act → World → Prop} {Q : Exit → Act → World → Prop}
    (s x : Operand) (t : TypeId) (ho : o.op = Op.call { callee := Callee.builtin Builtin.append, args := #[s, x], argTypes := #[t, t] })
    (e : TypeId) (i : TypeInfo) (z : Value) (size bytes : Nat) (ht : P.underlying t = some (.slice e)) (hi : P.info? e = some i) (hz : i.zero = some z)
    (hsize : i.size = size) (hby : i.bytes = bytes) (hzs : z.cells.size = size) (hsz : 0 < size)
    (v : Value) (n : Nat) (xs : List Value) (hs : a.eval s = v) (hown : w.ownsRow 0 e size v n xs)
    (ad : Addr) (m c : Nat) (news : List Value) (hx : a.eval x = .slice (some ad) m c) (hl : news.length = m * size) (hnews : ∀ j u, news[j]? = some u → w.cell? (ad.add j) = some u) (h1 : ∀ u ∈ news, u.oneCell' = true)
    (h63 : n + m ≤ maxLen) (hbytes : (n + m) * bytes ≤ 140737488355328)
    (h : ∀ v' w', w'.ownsRow 0 e size v' (n + m) (xs ++ news) → Keeps (fun b => v.ownBlock = some b) w w' → (v'.ownBlock = v.ownBlock ∨ ∀ b, v'.ownBlock = some b → w.heap.size ≤ b) → K (a.put o.dst v') w') :
    Oper.wp P o a w K Q := by
  obtain ⟨v', w', hrun, r1, r2, r3⟩ := run_append_any (P := P) w (t := t) (ty := o.type) ht hi hz hsize hby hzs hsz hown (c := c) hl hnews h1 h63 hbytes
  unfold Oper.wp
  simp [execOp, ho, resolve, invoke, builtin, hs, hx, hrun, Result.andThen]
  exact h v' w' r1 r2 r3

/-- Bytes as cells. -/
def bytesV (l : List UInt8) : List Value := l.map fun b => .int .u8 (b.toNat : Int)
@[simp] theorem bytesV_len (l : List UInt8) : (bytesV l).length = l.length := by simp [bytesV]
theorem bytesV_append (l m : List UInt8) : bytesV (l ++ m) = bytesV l ++ bytesV m := by simp [bytesV]
theorem bytesV_one (l : List UInt8) : ∀ u ∈ bytesV l, u.oneCell' = true := by
  intro u hu; simp only [bytesV, List.mem_map] at hu; obtain ⟨b, _, rfl⟩ := hu; rfl

/-- 'string(b)' of a row of one's own. -/
theorem run_string_row {src dst e : TypeId} (hs : P.underlying src = some (.slice e)) (he : P.underlying e = some (.int .u8)) (hd : P.underlying dst = some .string)
    {B : Nat} {v : Value} {n : Nat} {l : List UInt8} (h : w.ownsRow B e 1 v n (bytesV l)) : (convert src dst v).run P w = .ok (.string ⟨l.toArray⟩) w := by
  have hl : l.length = n := by have := h.1; simp at this; exact this
  have hh := h
  obtain ⟨_, ⟨rfl, h2⟩ | ⟨g, cap, cur, rfl, _⟩⟩ := h
  · have : l = [] := List.eq_nil_of_length_eq_zero (by omega)
    subst this
    rw [run_convert_bytes_string w src dst e _ _ _ hs he hd]
    simp [Conv.bytesToString]; rfl
  · subst hl
    refine run_convert_bytes_back w src dst e _ cap l hs he hd (fun j hj => ?_)
    refine World.ownsRow.cells hh rfl j _ ?_
    simp [bytesV, hj]
end

theorem own_some {w : World} {base : Nat} {e : TypeId} {size : Nat} {g n cap : Nat} {xs : List Value} (h : w.ownsRow base e size (.slice (some ⟨g, 0, none⟩) n cap) n xs) (j : Nat) (hj : j < n * size) : ∃ v, w.cell? ⟨g, j, none⟩ = some v :=
  ⟨_, (h.cellAt j hj).trans (List.getElem?_eq_getElem (by rw [h.1]; exact hj))⟩

theorem results_cell {P : Program} {fn : Func} {t : Tmp} {ty : TypeId} (h : fn.results = #[.cell t ty]) {tmps : Array Value} {a : Addr} (ha : tmps.getD t undef = .pointer (some a)) {w : World} {v : Value} (hl : (loadVar ty a).run P w = .ok v w) :
    (results fn tmps).run P w = .ok v w := by
  have ha' : tmps[t]?.getD undef = .pointer (some a) := by simpa using ha
  simp [results, h, ha', asAddr, Sem.run_bind, Result.andThen, hl]

/-! Bits of bytes, of words. -/
theorem ofInt_u8 (a : UInt8) : BitVec.ofInt (IntKind.bits .u8) (a.toNat : Int) = a.toBitVec := by
  show BitVec.ofInt 8 ((a.toNat : Nat) : Int) = _
  rw [BitVec.ofInt_natCast]; simp
theorem wrap_u8 (a : UInt8) : IntKind.u8.wrap (a.toNat : Int) = a.toNat := wraps_u8 _ (by omega) (by have := a.toNat_lt; omega)
theorem bits_or_u8 (a b : UInt8) : bits .or .u8 a.toNat b.toNat = ((a ||| b).toNat : Int) := by
  unfold bits; rw [ofInt_u8, ofInt_u8]; exact wrap_u8 (a ||| b)
theorem bits_and_u8 (a b : UInt8) : bits .and .u8 a.toNat b.toNat = ((a &&& b).toNat : Int) := by
  unfold bits; rw [ofInt_u8, ofInt_u8]; exact wrap_u8 (a &&& b)
theorem shl4_u8 (a : UInt8) : (a.toNat : Int) * (16 : Int) % (256 : Int) = ((a <<< 4).toNat : Int) := by
  have h : ∀ b : Fin 256, (b.1 : Int) * (16 : Int) % (256 : Int) = ((UInt8.ofNat b.1 <<< 4).toNat : Int) := by decide +kernel
  have := h ⟨a.toNat, a.toNat_lt⟩
  simpa only [UInt8.ofNat_toNat] using this
theorem wrap_of_u8 (n : Int) : IntKind.u8.wrap n = n % 256 := IntKind.wrap_u8 n
theorem ofNat_u8 (n : Nat) : (n : Int) % (256 : Int) = ((UInt8.ofNat n).toNat : Int) := by
  rw [show (UInt8.ofNat n).toNat = n % 256 from UInt8.toNat_ofNat']; omega
theorem pair_u8 (x y : UInt8) : bits .or .u8 ((x.toNat : Int) * (16 : Int) % (256 : Int)) (y.toNat : Int) = ((x <<< 4 ||| y).toNat : Int) := by
  rw [shl4_u8, bits_or_u8]

/-- A row of one's own, made since w0. -/
structure ORow (T : TypeId) (sz : Nat) (w0 w : World) (v : Value) (n : Nat) (xs : List Value) : Prop where
  sl : ∃ a c, v = .slice a n c
  own : w.ownsRow 0 T sz v n xs
  ext : Ext w0 w
  new : ∀ b, v.ownBlock = some b → w0.heap.size ≤ b
theorem ORow.mono {T : TypeId} {sz : Nat} {w0 w w' : World} {v : Value} {n : Nat} {xs : List Value} (h : ORow T sz w0 w v n xs) (k : Ext w w') : ORow T sz w0 w' v n xs := ⟨h.sl, own_ext h.own k, h.ext.trans k, h.new⟩
theorem ORow.keeps {T : TypeId} {sz : Nat} {F : BSet} {w0 w w' : World} {v : Value} {n : Nat} {xs : List Value} (h : ORow T sz w0 w v n xs) (k : Keeps F w w') (hF : ∀ b, v.ownBlock = some b → ¬ F b) (hF' : ∀ b, b < w0.heap.size → ¬ F b) : ORow T sz w0 w' v n xs :=
  ⟨h.sl, own_keeps h.own k hF, h.ext.trans' k (fun x hx g => hF' x hx g), h.new⟩
theorem ORow.step {T : TypeId} {sz : Nat} {w0 w w' : World} {v v' : Value} {n m : Nat} {xs ys : List Value} (h : ORow T sz w0 w v n xs) (r1 : w'.ownsRow 0 T sz v' (n + m) (xs ++ ys)) (r2 : Keeps (fun b => v.ownBlock = some b) w w') (r3 : v'.ownBlock = v.ownBlock ∨ ∀ b, v'.ownBlock = some b → w.heap.size ≤ b) : ORow T sz w0 w' v' (n + m) (xs ++ ys) :=
  ⟨row_slice r1, r1, ext_of_row h.ext h.new r2, fun b hb => by
    rcases r3 with r3 | r3
    · exact h.new b (r3 ▸ hb)
    · exact Nat.le_trans h.ext.size (r3 b hb)⟩
theorem ORow.nil (T : TypeId) (sz : Nat) {w0 w : World} (h : Ext w0 w) : ORow T sz w0 w (.slice none 0 0) 0 [] := ⟨⟨_, _, rfl⟩, World.ownsRow_nil _ _ _ _, h, fun b hb => by cases hb⟩
theorem ORow.made {T : TypeId} {sz : Nat} (w : World) {w1 : World} {c : Nat} {B : Nat} (h : w1.ownsRow B T sz (.slice (some ⟨w.heap.size, 0, none⟩) 0 c) 0 []) (g : w.grownBy w1 none) : ORow T sz w w1 (.slice (some ⟨w.heap.size, 0, none⟩) 0 c) 0 [] :=
  ⟨⟨_, _, rfl⟩, ⟨h.1, h.2.imp id (fun ⟨g, cap, cur, e1, e2, e3⟩ => ⟨g, cap, cur, e1, Nat.zero_le _, e3⟩)⟩, Keeps.of_grown g (fun _ h => by cases h), fun b hb => by
    have : some w.heap.size = some b := hb
    have := Option.some.inj this; omega⟩
theorem ORow.lit {T : TypeId} {sz : Nat} {w0 w : World} (cs : Array Value) {n : Nat} (h : Ext w0 w) (hm : n ≤ maxLen) (hs : cs.size = n * sz) : ORow T sz w0 (w.alloc (.cells cs T)) (.slice (some ⟨w.heap.size, 0, none⟩) n n) n cs.toList :=
  ⟨⟨_, _, rfl⟩, World.ownsRow_lit w cs n (Nat.zero_le _) hm hs, h.alloc _, fun b hb => by
    have e : some w.heap.size = some b := hb
    have := Option.some.inj e; have := h.size; omega⟩
theorem ORow.lt {T : TypeId} {sz : Nat} {w0 w : World} {v : Value} {n : Nat} {xs : List Value} (h : ORow T sz w0 w v n xs) : ∀ b, v.ownBlock = some b → b < w.heap.size := fun b hb => (World.ownsRow.lt h.own b hb).2
theorem ORow.len {T : TypeId} {sz : Nat} {w0 w : World} {v : Value} {n : Nat} {xs : List Value} (h : ORow T sz w0 w v n xs) : xs.length = n * sz := h.own.1
theorem ORow.set {T : TypeId} {sz : Nat} {w0 w : World} {g n c : Nat} {xs : List Value} (h : ORow T sz w0 w (.slice (some ⟨g, 0, none⟩) n c) n xs) (j : Nat) (u : Value) : ORow T sz w0 (w.setCell ⟨g, j, none⟩ u) (.slice (some ⟨g, 0, none⟩) n c) n (xs.set j u) :=
  ⟨⟨_, _, rfl⟩, (h.own.stored j u).1, h.ext.setCell (p := ⟨g, j, none⟩) (.inr (h.new g rfl)) u, h.new⟩
/-! Loads. -/
theorem run_load_plain {P : Program} {t : TypeId} {d : TypeDesc} (h : P.underlying t = some d) (hd : (match d with | .struct _ | .array _ _ => true | _ => false) = false) {w : World} {a : Addr} {v : Value} (hc : w.cell? a = some v) : (Instr.loadAt t (.pointer (some a))).run P w = .ok v w := by
  have : (isAgg t).run P w = .ok false w := by cases d <;> simp_all [isAgg, run_underlying h]
  simp [Instr.loadAt, Instr.sureAddr, loadVar, Sem.run_bind, this, Result.andThen, hc]
theorem run_load_agg {P : Program} {t : TypeId} {fs : Array Field} (h : P.underlying t = some (.struct fs)) {w : World} {a : Addr} {xs : List Value} (hi : (P.info? t).map (·.size) = some xs.length) (hc : ∀ j v, xs[j]? = some v → w.cell? (a.add j) = some v) : (Instr.loadAt t (.pointer (some a))).run P w = .ok (.agg xs.toArray) w := by
  have e1 : (isAgg t).run P w = .ok true w := by simp [isAgg, run_underlying h]
  obtain ⟨i, hi1, hi2⟩ := Option.map_eq_some_iff.1 hi
  have e2 : (sizeOf t).run P w = .ok xs.length w := by simp [sizeOf, typeInfo, hi1, hi2]
  have e3 := run_loadCells_list (P := P) w a xs hc
  simp [Instr.loadAt, Instr.sureAddr, loadVar, Sem.run_bind, e1, e2, e3, Result.andThen]

/-- What of a slice's type is asked for. -/
structure SInfo (P : Program) (t T : TypeId) (sz by' : Nat) : Prop where
  ht : P.underlying t = some (.slice T)
  hi : ∃ i z, P.info? T = some i ∧ i.zero = some z ∧ i.size = sz ∧ i.bytes = by' ∧ z.cells.size = sz
  hsz : 0 < sz
theorem SInfo.mk' {P : Program} {t T : TypeId} {sz by' : Nat} {z : Value} (ht : P.underlying t = some (.slice T)) (h : (P.info? T).map (fun i => (i.zero, i.size, i.bytes)) = some (some z, sz, by')) (hz : z.cells.size = sz) (hs : 0 < sz) : SInfo P t T sz by' := by
  obtain ⟨i, h1, h2, h3, h4⟩ := info_parts h
  exact ⟨ht, ⟨i, z, h1, h2, h3, h4, hz⟩, hs⟩
theorem news_blk {T' : TypeId} {fz : Nat × Nat} {w : World} {g : Nat} {news : List Value} (h : Blk w g (.cells news.toArray T' fz)) : ∀ j u, news[j]? = some u → w.cell? ((⟨g, 0, none⟩ : Addr).add j) = some u := by
  intro j u hj
  rw [Addr.add_lit, Nat.zero_add]
  exact h.cellL hj
section
variable {P : Program} {t T : TypeId} {sz by' : Nat} (I : SInfo P t T sz by') {w0 w : World} {v : Value} {n : Nat} {xs : List Value} {o : Oper} {a : Act} {g m c : Nat} {news : List Value} {ops : Array Oper} {rest : List Oper}
include I in
/-- append at a row of one's own: a single operation of a region that draws. -/
theorem wp_app {K : Act → World → Prop} {Q : Exit → Act → World → Prop} (hR : ORow T sz w0 w v n xs) (s x : Operand) (hs : a.eval s = v) (hx : a.eval x = .slice (some ⟨g, 0, none⟩) m c) (hB : ∀ j u, news[j]? = some u → w.cell? ((⟨g, 0, none⟩ : Addr).add j) = some u) (h1 : ∀ u ∈ news, u.oneCell' = true) (hl : news.length = m * sz)
    (ho : o.op = Op.call { callee := Callee.builtin Builtin.append, args := #[s, x], argTypes := #[t, t] }) (h63 : n + m ≤ maxLen) (hby : (n + m) * by' ≤ 140737488355328)
    (h : ∀ v' w', ORow T sz w0 w' v' (n + m) (xs ++ news) → Keeps (fun b => v.ownBlock = some b) w w' → (v'.ownBlock = v.ownBlock ∨ ∀ b, v'.ownBlock = some b → w.heap.size ≤ b) → K (a.put o.dst v') w') : o.wp P a w K Q := by
  obtain ⟨i, z, e1, e2, e3, e4, e5⟩ := I.hi
  exact wp_append_any w s x t ho T i z sz by' I.ht e1 e2 e3 e4 e5 I.hsz v n xs hs hR.own ⟨g, 0, none⟩ m c news hx hl hB h1 h63 hby (fun v' w' r1 r2 r3 => h v' w' (hR.step r1 r2 r3) r2 r3)
include I in
/-- .. of a plain region. -/
theorem wpList_app {Q : Exit → Act → World → Prop} (hR : ORow T sz w0 w v n xs) (s x : Operand) (hgd : o.guard = none) (hs : a.eval s = v) (hx : a.eval x = .slice (some ⟨g, 0, none⟩) m c) (hB : ∀ j u, news[j]? = some u → w.cell? ((⟨g, 0, none⟩ : Addr).add j) = some u) (h1 : ∀ u ∈ news, u.oneCell' = true) (hl : news.length = m * sz)
    (ho : o.op = Op.call { callee := Callee.builtin Builtin.append, args := #[s, x], argTypes := #[t, t] }) (h63 : n + m ≤ maxLen) (hby : (n + m) * by' ≤ 140737488355328)
    (h : ∀ v' w', ORow T sz w0 w' v' (n + m) (xs ++ news) → Keeps (fun b => v.ownBlock = some b) w w' → (v'.ownBlock = v.ownBlock ∨ ∀ b, v'.ownBlock = some b → w.heap.size ≤ b) → wpList P ops Q rest (a.put o.dst v') w') : wpList P ops Q (o :: rest) a w := by
  refine wpList_plain hgd fun K hK => ?_
  exact wp_app I hR s x hs hx hB h1 hl ho h63 hby (fun v' w' r1 r2 r3 => hK _ _ (h v' w' r1 r2 r3))
end

theorem run_make_len {P : Program} (w : World) {t e : TypeId} {i : TypeInfo} {z : Value} (ht : P.underlying t = some (.slice e)) (hi : P.info? e = some i) (hz : i.zero = some z) (h1 : i.size = 1) (hz1 : z.cells = #[z])
    (kl kc : IntKind) (n : Nat) (hbytes : i.bytes * n ≤ 281474976710656) (h63 : n ≤ maxLen) :
    (Instr.makeSlice t (.int kl (n : Int)) (.int kc (n : Int))).run P w = .ok (.slice (some ⟨w.heap.size, 0, none⟩) n n) (w.alloc (.cells (List.replicate n z).toArray e)) := by
  have hb' : (i.bytes : Int) * (n : Int) ≤ 281474976710656 := by
    have h : ((i.bytes * n : Nat) : Int) ≤ 281474976710656 := by omega
    rwa [Int.natCast_mul] at h
  have hr := run_make (P := P) w t e i z ht hi hz kl kc n n (by omega) (Int.le_refl _) hb' (by unfold maxLen at h63; omega)
  rw [hr, h1, hz1]
  simp only [Int.toNat_natCast, Nat.mul_one]
  congr 3
  exact Array.ext' (by rw [toList_madeCells_one])
end
end Go.Proofs.YtolhikjjchfnjaaGreatDoor
/- nibble: Path. -/
namespace Go.Proofs.YtolhikjjchfnjaaGreatDoor
section
open Go Go.RowKit
set_option linter.unusedSimpArgs false
set_option linter.unusedVariables false
def pathL (l : List UInt8) : List UInt8 := l.flatMap fun (b : UInt8) => [b >>> 4, b &&& 15]
def pathB (s : ByteArray) : ByteArray := ⟨(pathL s.data.toList).toArray⟩
theorem Tryz.uBytes : Tryz.prog.underlying 63 = some (.slice 5) := by kernel_rfl
theorem Tryz.uU8 : Tryz.prog.underlying 5 = some (.int .u8) := by kernel_rfl
theorem Tryz.uStr : Tryz.prog.underlying 9 = some .string := by kernel_rfl
theorem Tryz.infoU8 : (Tryz.prog.info? 5).map (fun i => (i.zero, i.size, i.bytes)) = some (some (.int .u8 0), 1, 1) := by kernel_rfl
/-- A row of bytes of one's own, made since w0. -/
abbrev BRow (w0 w : World) (v : Value) (n : Nat) (l : List UInt8) : Prop := ORow 5 1 w0 w v n (bytesV l)
def PathRel (w : World) (s : ByteArray) (v i : Value) (wr : World) : Prop := ∃ k : Nat, k ≤ s.size ∧ i = .int .i64 k ∧ BRow w wr v (2 * k) (pathL (s.data.toList.take k))
theorem path_take (s : ByteArray) {k : Nat} (h : k < s.size) : pathL (s.data.toList.take (k + 1)) = pathL (s.data.toList.take k) ++ [s[k] >>> 4, s[k] &&& 15] := by
  have hl : k < s.data.toList.length := by simpa using h
  rw [List.take_succ_eq_append_getElem hl]
  simp only [pathL, List.flatMap_append, List.flatMap_cons, List.flatMap_nil, List.append_nil]
  rfl
theorem nib_cells (b : UInt8) : ([.int .u8 (b.toNat / 16), .int .u8 (bits BinOp.and .u8 b.toNat 15)] : List Value) = bytesV [b >>> 4, b &&& 15] := by
  have h : ∀ b : Fin 256, ((b.1 : Int) / (16 : Int) = ((UInt8.ofNat b.1 >>> 4).toNat : Int)) ∧ bits BinOp.and .u8 b.1 15 = ((UInt8.ofNat b.1 &&& 15).toNat : Int) := by decide +kernel
  have := h ⟨b.toNat, b.toNat_lt⟩
  simp only [UInt8.ofNat_toNat] at this
  simp only [bytesV, List.map_cons, List.map_nil, this.1, this.2]
set_option maxRecDepth 100000 in
set_option maxHeartbeats 1000000 in
theorem path_c (w : World) (s : ByteArray) (hs : s.size ≤ 1000000) : Calls Tryz.prog 71 #[.string s] w fun e w' => e = .returned (.string (pathB s)) ∧ Ext w w' := by
  obtain ⟨i0, hi, hz0, hz1, hz2⟩ := info_parts Tryz.infoU8
  obtain ⟨w1, hmk0, hown, hgr⟩ := run_make_own (P := Tryz.prog) (w := w) w.heap.size 63 5 i0 _ 1 Tryz.uBytes hi hz0 hz1 .i64 .i64 (2 * s.size) (by rw [hz2]; omega) (by unfold maxLen; omega) (Nat.le_refl _)
  have hmk : (Instr.makeSlice 63 (.int .i64 0) (.int .i64 (2 * (s.size : Int)))).run Tryz.prog w = .ok (.slice (some ⟨w.heap.size, 0, none⟩) 0 (2 * s.size)) w1 := by rw [← hmk0]; congr 3
  have HO := Lib.hid hown
  have HG := Lib.hid hgr
  clear hown hgr hmk0
  go_enter Tryz.func71, Tryz.ntmps71
  go_wp2
  go_loopw [3, 11] (fun v i wr => PathRel w s v i wr) (fun _ i _ => s.size - (intOf i).toNat)
  case atStart => exact ⟨0, Nat.zero_le _, rfl, ORow.made w HO.out HG.out⟩
  case round =>
    obtain ⟨k, hk, rfl, hR⟩ := hrel
    obtain ⟨a, c, rfl⟩ := hR.sl
    have HR := Lib.hid hR
    clear hR
    by_cases hlt : k < s.size
    · go_wp2
      refine wp_region_mix [0,1,2,3,4,5,6,7,8,9,10,11] [9,10] Ext ExtR ExtT (by kernel_rfl) (by kernel_rfl) (by kernel_rfl) ?_
      iterate 9 (refine mix_pure _ rfl (by kernel_rfl) rfl rfl (fun K hK => ?_); go_big_quiet_op; refine hK _ ?_; clear hK K)
      refine mix_hard _ rfl (by kernel_rfl) rfl (fun w1 he K hK => ?_)
      go_simp
      refine hK _ _ ?_
      clear hK K
      have HR1 := Lib.hid ((HR.out.mono (drewE wr)).mono he)
      clear he HR
      refine mix_hard _ rfl (by kernel_rfl) rfl (fun w2 he2 K hK => ?_)
      have hn : ∀ j u, ([.int .u8 (s[k].toNat / 16), .int .u8 (bits BinOp.and .u8 s[k].toNat 15)] : List Value)[j]? = some u → w2.cell? ((⟨w1.heap.size, 0, none⟩ : Addr).add j) = some u := fun j u hj => cell_ext (news_new w1 5 _ j u hj) he2
      have HR2 := HR1.out.mono (((ExtR w1).alloc _).trans he2)
      refine wp_append_any w2 (.tmp 14) (.tmp 23) 63 rfl 5 i0 _ 1 1 Tryz.uBytes hi hz0 hz1 hz2 rfl (by decide) _ (2 * k) _ rfl HR2.own ⟨w1.heap.size, 0, none⟩ 2 2 _ rfl rfl hn (by intro u hu; simp at hu; rcases hu with rfl | rfl <;> rfl) (by unfold maxLen; omega) (by omega) (fun v' w3 r1 r2 r3 => hK _ _ ?_)
      clear hK K hn
      have e2 : ([.int .u8 (s[k].toNat / 16), .int .u8 (bits BinOp.and .u8 s[k].toNat 15)] : List Value) = bytesV [s[k] >>> 4, s[k] &&& 15] := by
        exact nib_cells s[k]
      rw [e2] at r1
      have HR3 : Hid (BRow w w3 v' (2 * k + 2) (pathL (s.data.toList.take k) ++ [s[k] >>> 4, s[k] &&& 15])) := Lib.hid (by unfold BRow; rw [bytesV_append]; exact HR2.step r1 r2 r3)
      clear r1 r2 r3 HR2 he2 HR1 e2
      simp only [Act.put, List.setIfInBounds_toArray, List.set_cons_zero, List.set_cons_succ]
      refine mix_pure _ rfl (by kernel_rfl) rfl rfl (fun K hK => ?_); go_big_quiet_op; refine hK _ ?_; clear hK K
      refine mix_end (by kernel_rfl) (fun w4 he4 => ?_)
      have HR4 := Lib.hid (HR3.out.mono he4)
      clear he4 HR3
      go_wp2
      go_roundw
      case rel => exact ⟨k + 1, by omega, by go_num, by rw [path_take s hlt]; exact HR4.out⟩
      case measure => simp [intOf]; omega
    · have hcv := run_string_row wr Tryz.uBytes Tryz.uU8 Tryz.uStr HR.out.own
      have e : (⟨(pathL (s.data.toList.take k)).toArray⟩ : ByteArray) = pathB s := by unfold pathB; rw [List.take_of_length_le (by simp; omega)]
      rw [e] at hcv
      clear e
      go_wp2
      go_ret
      exact ⟨rfl, HR.out.ext⟩

def pairsL : List UInt8 → List UInt8
  | x :: y :: r => (x <<< 4 ||| y) :: pairsL r
  | _ => []
def pairsB (s : ByteArray) : ByteArray := ⟨(pairsL s.data.toList).toArray⟩
theorem pairs_len : ∀ (l : List UInt8), (pairsL l).length = l.length / 2
  | [] => rfl
  | [_] => by simp [pairsL]
  | _ :: _ :: r => by simp only [pairsL, List.length_cons, pairs_len r]; omega
theorem pairs_get : ∀ (l : List UInt8) (j : Nat) (h : 2 * j + 1 < l.length), (pairsL l)[j]? = some (l[2 * j] <<< 4 ||| l[2 * j + 1])
  | [], _, h => by simp at h
  | [_], _, h => by simp at h
  | x :: y :: r, 0, _ => by simp [pairsL]
  | x :: y :: r, j + 1, h => by
    have := pairs_get r j (by simp at h; omega)
    simp only [pairsL, List.getElem?_cons_succ, this, Nat.mul_add, Nat.mul_one]
    congr 1
def pairCells (s : ByteArray) (k : Nat) : List Value := bytesV ((pairsL s.data.toList).take k) ++ List.replicate (s.size / 2 - k) (.int .u8 0)
theorem pairCells_len (s : ByteArray) (k : Nat) (h : k ≤ s.size / 2) : (pairCells s k).length = s.size / 2 := by
  have := pairs_len s.data.toList
  simp at this
  simp [pairCells, this]; omega
theorem pairCells_set (s : ByteArray) (k : Nat) (h : k < s.size / 2) : (pairCells s k).set k (.int .u8 (((s[2 * k]'(by omega)) <<< 4 ||| (s[2 * k + 1]'(by omega))).toNat : Int)) = pairCells s (k + 1) := by
  have hl := pairs_len s.data.toList
  simp at hl
  have h1 : (bytesV ((pairsL s.data.toList).take k)).length = k := by simp [hl]; omega
  have h2 : s.size / 2 - k = (s.size / 2 - (k + 1)) + 1 := by omega
  have h3 := pairs_get s.data.toList k (by simp; omega)
  have h4 : k < (pairsL s.data.toList).length := by omega
  rw [List.getElem?_eq_getElem h4] at h3
  have h5 := Option.some.inj h3
  unfold pairCells
  rw [h2, List.replicate_succ, List.set_append_right _ _ (by omega), h1, Nat.sub_self, List.set_cons_zero, List.take_succ_eq_append_getElem h4, bytesV_append, List.append_assoc]
  congr 1
  simp only [bytesV, List.map_cons, List.map_nil, List.cons_append, List.nil_append, h5]
  rfl
theorem pairCells_all (s : ByteArray) : pairCells s (s.size / 2) = bytesV (pairsL s.data.toList) := by
  have hl := pairs_len s.data.toList
  simp at hl
  unfold pairCells
  rw [List.take_of_length_le (by omega)]; simp
def PairRel (w : World) (s : ByteArray) (n : Nat) (i : Value) (wr : World) : Prop := ∃ k : Nat, k ≤ n ∧ i = .int .i64 k ∧ ORow 5 1 w wr (.slice (some ⟨w.heap.size, 0, none⟩) n n) n (pairCells s k)
set_option maxRecDepth 100000 in
set_option maxHeartbeats 1000000 in
theorem pairs_c (w : World) (s : ByteArray) (hs : s.size ≤ 1000000) : Calls Tryz.prog 152 #[.string s] w fun e w' => e = .returned (.string (pairsB s)) ∧ Ext w w' := by
  obtain ⟨i0, hi, hz0, hz1, hz2⟩ := info_parts Tryz.infoU8
  obtain ⟨n, hn⟩ : ∃ n, n = s.size / 2 := ⟨_, rfl⟩
  have hq : (s.size : Int) / 2 = (n : Int) := by omega
  have hle : 2 * n ≤ s.size := by omega
  have HN := Lib.hid hn
  clear hn
  have hmk := run_make_len (P := Tryz.prog) w Tryz.uBytes hi hz0 hz1 rfl .i64 .i64 n (by rw [hz2]; omega) (by unfold maxLen; omega)
  go_enter Tryz.func152, Tryz.ntmps152
  go_wp2
  clear hq hmk
  go_loopw [11] (fun i wr => PairRel w s n i wr) (fun i _ => n - (intOf i).toNat)
  case atStart =>
    refine ⟨0, Nat.zero_le _, rfl, ?_⟩
    have h := ORow.lit (T := 5) (sz := 1) (List.replicate n (.int .u8 0)).toArray (n := n) (ExtR w) (by unfold maxLen; omega) (by simp)
    have e : pairCells s 0 = List.replicate n (.int .u8 0) := by simp [pairCells, bytesV, HN.out]
    rw [e]; simpa using h
  case round =>
    obtain ⟨k, hk, rfl, hR⟩ := hrel
    have HR := Lib.hid hR
    clear hR
    by_cases hlt : k < n
    · have b1 : 2 * k < s.size := by omega
      have b2 : 2 * k + 1 < s.size := by omega
      have c0 : (0 : Int) ≤ 2 * (k : Int) := by omega
      have c1 : 2 * (k : Int) < (s.size : Int) := by omega
      have c2 : (0 : Int) ≤ 2 * (k : Int) + 1 := by omega
      have c3 : 2 * (k : Int) + 1 < (s.size : Int) := by omega
      go_wp2
      refine wp_region_mix [0,1,2,3,4,5,6,7,8,9,10,11,12,13,14] [14] Ext ExtR ExtT (by kernel_rfl) (by kernel_rfl) (by kernel_rfl) ?_
      iterate 14 (refine mix_pure _ rfl (by kernel_rfl) rfl rfl (fun K hK => ?_); go_big_quiet_op; refine hK _ ?_; clear hK K)
      refine mix_hard _ rfl (by kernel_rfl) rfl (fun w1 he K hK => ?_)
      have HR1 := Lib.hid (HR.out.mono ((drewE wr).trans he))
      clear he HR
      have hcell := HR1.out.own.cellAt k (by omega)
      rw [List.getElem?_eq_getElem (by rw [pairCells_len _ _ (by have := HN.out; omega)]; have := HN.out; omega)] at hcell
      have hfr := HR1.out.own.frozenAt k
      go_simp
      refine hK _ _ ?_
      clear hK K hcell hfr
      have HR2 := HR1.out.set k (.int .u8 ((s[2 * k] <<< 4 ||| s[2 * k + 1]).toNat : Int))
      rw [pairCells_set s k (by have := HN.out; omega)] at HR2
      have HR3 := Lib.hid HR2
      clear HR2 HR1
      refine mix_end (by kernel_rfl) (fun w2 he => ?_)
      rw [pair_u8] at he
      have HR4 := Lib.hid (HR3.out.mono he)
      clear he HR3
      go_wp2
      go_roundw
      case rel => exact ⟨k + 1, by omega, by go_num, HR4.out⟩
      case measure => simp [intOf]; omega
    · have hcv := run_string_row wr Tryz.uBytes Tryz.uU8 Tryz.uStr (l := pairsL s.data.toList) (n := n) (by have := HR.out.own; rw [show k = s.size / 2 from by have := HN.out; omega, pairCells_all] at this; exact this)
      go_wp2
      go_ret
      exact ⟨rfl, HR.out.ext⟩
end
end Go.Proofs.YtolhikjjchfnjaaGreatDoor
