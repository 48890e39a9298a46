/- Parts of the proof, one behind the other: OpenA, MapA, MapB, GrowA. Each is under no condition but those that it states. -/
import Derived.Test.YtolhikjjchfnjaaGreatDoorBa27
import Derived.Test.YtolhikjjchfnjaaGreatDoorBa26
import Derived.WalkKit
import Derived.ProofKit
import Derived.OpenShut
import Derived.Lib.SmallJoins
import Derived.JoinedCond
import Derived.Deep.Slices
import Derived.Carry
/- The arguments of the laws: rows of entries, rows of changes. -/
namespace Go.Proofs.YtolhikjjchfnjaaGreatDoor
section
open Go Go.ChangeShapes Go.WideShapes Go.ChangeAt Go.RowKit Go.Deep
set_option linter.unusedSimpArgs false
set_option linter.unusedVariables false
theorem Tryz.ownK : ownKnob Tryz.prog.godebug = none := by kernel_rfl
theorem Tryz.laidOutK : laidOutB Tryz.prog = true := by kernel_rfl
theorem Tryz.cellsEnt : Tryz.prog.cellsOf 52 = 2 := by kernel_rfl
theorem Tryz.cellsChg : Tryz.prog.cellsOf 49 = 3 := by kernel_rfl
theorem Tryz.cellsStr : Tryz.prog.cellsOf 9 = 1 := by kernel_rfl
theorem Tryz.cellsBool : Tryz.prog.cellsOf 4 = 1 := by kernel_rfl
def big : Nat := 9223372036854775807
theorem maxLen_big : maxLen ≤ 9223372036854775807 := by unfold maxLen; omega
section
variable {H : Type} {enc : TypeId × Value → H} {w : World} {base : Nat} {spare : Nat → Bool} {held : Bool}
set_option maxRecDepth 100000 in
theorem open_ent {n : Nat} {a : Addr} {cs : List Value} {x : DataW H × List MemPlace} (hc : w.cells? base a 2 = some cs) (h : DataW.trod enc Tryz.prog w base spare held n 52 cs = some x) :
    ∃ p : Pair, w.cell? (a.add 0) = some (.string p.1) ∧ w.cell? (a.add 1) = some (.string p.2) ∧ p.1.size ≤ 9223372036854775807 ∧ p.2.size ≤ 9223372036854775807 := by
  obtain ⟨_, hl, hg⟩ := World.cells?_some hc
  obtain ⟨xs, m, _, _, _, hxl, hf⟩ := DataW.trod_struct Tryz.underlying52 h
  match cs, hl with
  | [c0, c1], _ =>
    have f0 : DataW.trod enc Tryz.prog w base spare held m 9 (([c0, c1].drop 0).take (Tryz.prog.cellsOf 9)) = xs[0]? := hf 0 _ rfl
    have f1 : DataW.trod enc Tryz.prog w base spare held m 9 (([c0, c1].drop 1).take (Tryz.prog.cellsOf 9)) = xs[1]? := hf 1 _ rfl
    rw [Tryz.cellsStr] at f0 f1
    dsimp only [List.drop, List.take] at f0 f1
    have hx : ∀ i, i < 2 → ∃ y, xs[i]? = some y := fun i hi => ⟨_, List.getElem?_eq_getElem (by rw [hxl]; exact hi)⟩
    obtain ⟨y0, e0⟩ := hx 0 (by omega)
    obtain ⟨y1, e1⟩ := hx 1 (by omega)
    rw [e0] at f0
    rw [e1] at f1
    obtain ⟨r, q0, _, w0⟩ := DataW.trod_string Tryz.underlying9 f0
    obtain ⟨s, q1, _, w1⟩ := DataW.trod_string Tryz.underlying9 f1
    simp only [List.cons.injEq, and_true] at q0 q1
    subst q0 q1
    exact ⟨(r, s), hg 0 (by omega), hg 1 (by omega), Nat.le_trans w0 maxLen_big, Nat.le_trans w1 maxLen_big⟩
set_option maxRecDepth 100000 in
theorem open_chg {n : Nat} {a : Addr} {cs : List Value} {x : DataW H × List MemPlace} (hc : w.cells? base a 3 = some cs) (h : DataW.trod enc Tryz.prog w base spare held n 49 cs = some x) :
    ∃ p : Chg, w.cell? (a.add 0) = some (.string p.key) ∧ w.cell? (a.add 1) = some (.string p.value) ∧ w.cell? (a.add 2) = some (.bool p.gone) ∧ p.key.size ≤ 9223372036854775807 ∧ p.value.size ≤ 9223372036854775807 := by
  obtain ⟨_, hl, hg⟩ := World.cells?_some hc
  obtain ⟨xs, m, _, _, _, hxl, hf⟩ := DataW.trod_struct Tryz.underlying49 h
  match cs, hl with
  | [c0, c1, c2], _ =>
    have f0 : DataW.trod enc Tryz.prog w base spare held m 9 (([c0, c1, c2].drop 0).take (Tryz.prog.cellsOf 9)) = xs[0]? := hf 0 _ rfl
    have f1 : DataW.trod enc Tryz.prog w base spare held m 9 (([c0, c1, c2].drop 1).take (Tryz.prog.cellsOf 9)) = xs[1]? := hf 1 _ rfl
    have f2 : DataW.trod enc Tryz.prog w base spare held m 4 (([c0, c1, c2].drop 2).take (Tryz.prog.cellsOf 4)) = xs[2]? := hf 2 _ rfl
    rw [Tryz.cellsStr] at f0 f1
    rw [Tryz.cellsBool] at f2
    dsimp only [List.drop, List.take] at f0 f1 f2
    have hx : ∀ i, i < 3 → ∃ y, xs[i]? = some y := fun i hi => ⟨_, List.getElem?_eq_getElem (by rw [hxl]; exact hi)⟩
    obtain ⟨y0, e0⟩ := hx 0 (by omega)
    obtain ⟨y1, e1⟩ := hx 1 (by omega)
    obtain ⟨y2, e2⟩ := hx 2 (by omega)
    rw [e0] at f0
    rw [e1] at f1
    rw [e2] at f2
    obtain ⟨r, q0, _, w0⟩ := DataW.trod_string Tryz.underlying9 f0
    obtain ⟨s, q1, _, w1⟩ := DataW.trod_string Tryz.underlying9 f1
    obtain ⟨b, q2, _⟩ := DataW.trod_bool Tryz.underlying4 f2
    simp only [List.cons.injEq, and_true] at q0 q1 q2
    subst q0 q1 q2
    exact ⟨⟨r, s, b⟩, hg 0 (by omega), hg 1 (by omega), hg 2 (by omega), Nat.le_trans w0 maxLen_big, Nat.le_trans w1 maxLen_big⟩
theorem list_of {α : Type} (n : Nat) (d : α) (P : Nat → α → Prop) (h : ∀ i, i < n → ∃ x, P i x) : ∃ l : List α, l.length = n ∧ ∀ i x, l[i]? = some x → P i x := by
  induction n with
  | zero => exact ⟨[], rfl, fun i x hx => by simp at hx⟩
  | succ n ih =>
    obtain ⟨l, h1, h2⟩ := ih fun i hi => h i (by omega)
    obtain ⟨x, hx⟩ := h n (by omega)
    refine ⟨l ++ [x], by simp [h1], fun i y hy => ?_⟩
    by_cases hi : i < n
    · rw [List.getElem?_append_left (by omega)] at hy; exact h2 i y hy
    · rw [List.getElem?_append_right (by omega)] at hy
      have : i - l.length = 0 := by
        have := (List.getElem?_eq_some_iff.1 hy).1
        simp at this; omega
      rw [this] at hy
      simp at hy; subst hy
      rw [show i = n by omega]; exact hx

set_option maxRecDepth 100000 in
theorem open_entries {v : Value} {d : DataW H} {p : List MemPlace} (hv : ∃ a n c, v = .slice a n c) (h : DataW.Trod enc Tryz.prog w 0 spare held 22 v d p) :
    ∃ l : List Pair, RdP w v l ∧ l.length ≤ 9223372036854775807 ∧ ∀ p ∈ l, p.1.size ≤ 9223372036854775807 ∧ p.2.size ≤ 9223372036854775807 := by
  obtain ⟨a0, n0, c0, rfl⟩ := hv
  obtain ⟨fuel, hf⟩ := h
  rcases open_slice Tryz.underlying22 hf with ⟨hcs, _⟩ | ⟨a, len, cap, m, n, D, Pl, hcs, _, hl, hm, hmm, _, hi⟩
  · simp only [Value.cells] at hcs
    have hcs' : Value.slice a0 n0 c0 = .slice none 0 0 := by simpa using hcs
    rw [hcs']
    exact ⟨[], .inl ⟨none, 0, rfl, rfl⟩, by simp, by simp⟩
  · have hcs' : Value.slice a0 n0 c0 = .slice (some a) len cap := by simpa [Value.cells] using hcs
    rw [hcs']
    have hlm : len ≤ m := by rw [hmm]; split <;> omega
    obtain ⟨l, hll, hlp⟩ := list_of len pd (fun i p => w.cell? ((a.add (i * 2)).add 0) = some (.string p.1) ∧ w.cell? ((a.add (i * 2)).add 1) = some (.string p.2) ∧ p.1.size ≤ 9223372036854775807 ∧ p.2.size ≤ 9223372036854775807) (fun i hi' => by
      obtain ⟨cs', h1, h2⟩ := hi i (by omega)
      rw [Tryz.cellsEnt] at h1
      exact open_ent h1 h2)
    have hsz : ∀ p ∈ l, p.1.size ≤ 9223372036854775807 ∧ p.2.size ≤ 9223372036854775807 := fun p hp => by
      obtain ⟨i, hi⟩ := List.getElem?_of_mem hp
      exact (hlp i p hi).2.2
    have hlen : l.length ≤ 9223372036854775807 := by have := maxLen_big; omega
    refine ⟨l, ?_, hlen, hsz⟩
    by_cases h0 : len = 0
    · subst h0
      exact .inl ⟨some a, cap, rfl, List.eq_nil_of_length_eq_zero hll⟩
    · obtain ⟨p0, hp0⟩ : ∃ p, l[0]? = some p := ⟨_, List.getElem?_eq_getElem (by omega)⟩
      have hspot : a.spot = none := by simpa [Addr.add] using World.cell?_spot (hlp 0 p0 hp0).1
      obtain ⟨b, o, sp⟩ := a
      dsimp only at hspot
      subst hspot
      refine .inr ⟨b, o, cap, by rw [hll], World.block_lt_of_cell? w _ (hlp 0 p0 hp0).1, by omega, fun j x hx => ?_⟩
      obtain ⟨q1, q2, _⟩ := hlp j x hx
      rw [Go.Deep.add_add, Go.WideShapes.add_plain] at q1 q2
      exact ⟨q1, q2⟩

set_option maxRecDepth 100000 in
theorem open_changes {v : Value} {d : DataW H} {p : List MemPlace} (hv : ∃ a n c, v = .slice a n c) (h : DataW.Trod enc Tryz.prog w 0 spare held 35 v d p) :
    ∃ l : List Chg, RdC w v l ∧ l.length ≤ 9223372036854775807 ∧ ∀ p ∈ l, p.key.size ≤ 9223372036854775807 ∧ p.value.size ≤ 9223372036854775807 := by
  obtain ⟨a0, n0, c0, rfl⟩ := hv
  obtain ⟨fuel, hf⟩ := h
  rcases open_slice Tryz.underlying35 hf with ⟨hcs, _⟩ | ⟨a, len, cap, m, n, D, Pl, hcs, _, hl, hm, hmm, _, hi⟩
  · simp only [Value.cells] at hcs
    have hcs' : Value.slice a0 n0 c0 = .slice none 0 0 := by simpa using hcs
    rw [hcs']
    exact ⟨[], .inl ⟨none, 0, rfl, rfl⟩, by simp, by simp⟩
  · have hcs' : Value.slice a0 n0 c0 = .slice (some a) len cap := by simpa [Value.cells] using hcs
    rw [hcs']
    have hlm : len ≤ m := by rw [hmm]; split <;> omega
    obtain ⟨l, hll, hlp⟩ := list_of len (⟨⟨#[]⟩, ⟨#[]⟩, false⟩ : Chg) (fun i p => w.cell? ((a.add (i * 3)).add 0) = some (.string p.key) ∧ w.cell? ((a.add (i * 3)).add 1) = some (.string p.value) ∧ w.cell? ((a.add (i * 3)).add 2) = some (.bool p.gone) ∧ p.key.size ≤ 9223372036854775807 ∧ p.value.size ≤ 9223372036854775807) (fun i hi' => by
      obtain ⟨cs', h1, h2⟩ := hi i (by omega)
      rw [Tryz.cellsChg] at h1
      exact open_chg h1 h2)
    have hsz : ∀ p ∈ l, p.key.size ≤ 9223372036854775807 ∧ p.value.size ≤ 9223372036854775807 := fun p hp => by
      obtain ⟨i, hi⟩ := List.getElem?_of_mem hp
      exact (hlp i p hi).2.2.2
    have hlen : l.length ≤ 9223372036854775807 := by have := maxLen_big; omega
    refine ⟨l, ?_, hlen, hsz⟩
    by_cases h0 : len = 0
    · subst h0
      exact .inl ⟨some a, cap, rfl, List.eq_nil_of_length_eq_zero hll⟩
    · obtain ⟨p0, hp0⟩ : ∃ p, l[0]? = some p := ⟨_, List.getElem?_eq_getElem (by omega)⟩
      have hspot : a.spot = none := by simpa [Addr.add] using World.cell?_spot (hlp 0 p0 hp0).1
      obtain ⟨b, o, sp⟩ := a
      dsimp only at hspot
      subst hspot
      refine .inr ⟨b, o, cap, by rw [hll], World.block_lt_of_cell? w _ (hlp 0 p0 hp0).1, by omega, fun j x hx => ?_⟩
      obtain ⟨q1, q2, q3, _⟩ := hlp j x hx
      rw [Go.Deep.add_add, Go.WideShapes.add_plain] at q1 q2 q3
      exact ⟨q1, q2, q3⟩
end
end
end Go.Proofs.YtolhikjjchfnjaaGreatDoor
/- Maps as lists of entries: what a key has, changes, order; plain. -/
namespace Go.Proofs.YtolhikjjchfnjaaGreatDoor
section
open Go Go.RowKit
set_option linter.unusedSimpArgs false
set_option linter.unusedVariables false
def look (m : List Pair) (k : List UInt8) : Option ByteArray := (m.find? (fun p => decide (k = p.k))).map (·.2)
theorem look_nil (k : List UInt8) : look [] k = none := rfl
theorem look_cons (q : Pair) (r : List Pair) (k : List UInt8) : look (q :: r) k = if k = q.k then some q.2 else look r k := by
  unfold look
  by_cases h : k = q.k <;> simp [List.find?_cons, h]
theorem valM_look (m : List Pair) (k : List UInt8) : valM m k = (look m k).getD ⟨#[]⟩ := rfl
theorem look_put (p : Pair) (k : List UInt8) : ∀ m : List Pair, look (putM m p) k = if k = p.k then some p.2 else look m k
  | [] => by rw [putM, look_cons, look_nil]
  | q :: r => by
    rw [putM]
    by_cases h : p.k = q.k
    · rw [if_pos h, look_cons, look_cons]
      by_cases h2 : k = p.k
      · rw [if_pos h2, if_pos h2]
      · rw [if_neg h2, if_neg h2, if_neg (by rw [← h]; exact h2)]
    · rw [if_neg h, look_cons, look_cons, look_put p k r]
      by_cases h2 : k = q.k
      · rw [if_pos h2, if_pos h2, if_neg (by rw [h2]; exact fun e => h e.symm)]
      · rw [if_neg h2, if_neg h2]
theorem look_none {k : List UInt8} : ∀ {m : List Pair}, k ∉ m.map Pair.k → look m k = none
  | [], _ => rfl
  | q :: r, h => by
    simp only [List.map_cons, List.mem_cons, not_or] at h
    rw [look_cons, if_neg h.1, look_none h.2]
theorem look_some {k : List UInt8} : ∀ {m : List Pair}, k ∈ m.map Pair.k → ∃ v, look m k = some v
  | [], h => by cases h
  | q :: r, h => by
    rw [look_cons]
    by_cases e : k = q.k
    · exact ⟨_, if_pos e⟩
    · rw [if_neg e]
      rcases List.mem_cons.1 h with h | h
      · exact absurd h e
      · exact look_some h
theorem look_mem {k : List UInt8} {v : ByteArray} : ∀ {m : List Pair}, look m k = some v → ∃ p ∈ m, p.k = k ∧ p.2 = v
  | [], h => by cases h
  | q :: r, h => by
    rw [look_cons] at h
    by_cases e : k = q.k
    · rw [if_pos e] at h
      exact ⟨q, List.mem_cons_self, e.symm, Option.some.inj h⟩
    · rw [if_neg e] at h
      obtain ⟨p, hp, h1⟩ := look_mem h
      exact ⟨p, List.mem_cons_of_mem _ hp, h1⟩
theorem look_of_mem {p : Pair} : ∀ {m : List Pair}, p ∈ m → (m.map Pair.k).Nodup → look m p.k = some p.2
  | [], h, _ => by cases h
  | q :: r, h, hn => by
    rw [List.map_cons, List.nodup_cons] at hn
    rw [look_cons]
    rcases List.mem_cons.1 h with rfl | h
    · rw [if_pos rfl]
    · have hq := List.mem_map_of_mem (f := Pair.k) h
      rw [if_neg (fun e => hn.1 (by rw [← e]; exact hq)), look_of_mem h hn.2]
theorem del_keys (k : ByteArray) : ∀ m : List Pair, (delM m k).map Pair.k = (m.map Pair.k).erase k.data.toList
  | [] => rfl
  | q :: r => by
    rw [delM, List.map_cons, List.erase_cons]
    by_cases h : k.data.toList = q.k
    · rw [if_pos h, if_pos (by simp [h])]
    · rw [if_neg h, if_neg (by intro e; exact h (by simpa using (eq_of_beq e).symm)), List.map_cons, del_keys k r]
theorem look_del (key : ByteArray) (k : List UInt8) : ∀ m : List Pair, (m.map Pair.k).Nodup → look (delM m key) k = if k = key.data.toList then none else look m k
  | [], _ => by rw [delM, look_nil]; simp
  | q :: r, hn => by
    rw [List.map_cons, List.nodup_cons] at hn
    rw [delM]
    by_cases h : key.data.toList = q.k
    · rw [if_pos h, look_cons]
      by_cases h2 : k = key.data.toList
      · rw [if_pos h2]; exact look_none (by rw [h2, h]; exact hn.1)
      · rw [if_neg h2, if_neg (by rw [← h]; exact h2)]
    · rw [if_neg h, look_cons, look_cons, look_del key k r hn.2]
      by_cases h2 : k = q.k
      · rw [if_pos h2, if_pos h2, if_neg (by rw [h2]; exact fun e => h e.symm)]
      · rw [if_neg h2, if_neg h2]
theorem put_keysM (p : Pair) : ∀ m : List Pair, (putM m p).map Pair.k = if p.k ∈ m.map Pair.k then m.map Pair.k else m.map Pair.k ++ [p.k]
  | [] => rfl
  | q :: r => by
    rw [putM]
    by_cases h : p.k = q.k
    · rw [if_pos h, if_pos (by simp [h])]; simp [h]
    · rw [if_neg h, List.map_cons, put_keysM p r]
      by_cases h2 : p.k ∈ r.map Pair.k
      · rw [if_pos h2, if_pos (by rw [List.map_cons]; exact List.mem_cons_of_mem _ h2)]; rfl
      · rw [if_neg h2, if_neg (by rw [List.map_cons, List.mem_cons]; exact fun e => e.elim h h2)]; rfl
theorem put_nodup (p : Pair) {m : List Pair} (h : (m.map Pair.k).Nodup) : ((putM m p).map Pair.k).Nodup := by
  rw [put_keysM]
  split
  · exact h
  · rename_i hn
    rw [List.nodup_append]
    exact ⟨h, by simp, fun a ha b hb e => by simp at hb; subst hb; subst e; exact hn ha⟩
theorem del_nodup (k : ByteArray) {m : List Pair} (h : (m.map Pair.k).Nodup) : ((delM m k).map Pair.k).Nodup := by
  rw [del_keys]; exact h.erase _
theorem do_nodup (c : Chg) {m : List Pair} (h : (m.map Pair.k).Nodup) : ((doM m c).map Pair.k).Nodup := by
  unfold doM; split
  · exact del_nodup _ h
  · exact put_nodup _ h
theorem dos_nodup : ∀ (cs : List Chg) {m : List Pair}, (m.map Pair.k).Nodup → ((cs.foldl doM m).map Pair.k).Nodup
  | [], _, h => h
  | c :: r, _, h => dos_nodup r (do_nodup c h)
theorem puts_nodup : ∀ (l : List Pair) {m : List Pair}, (m.map Pair.k).Nodup → ((l.foldl putM m).map Pair.k).Nodup
  | [], _, h => h
  | c :: r, _, h => puts_nodup r (put_nodup c h)
theorem apply_nodup (l : List Pair) (cs : List Chg) : ((applyM l cs).map Pair.k).Nodup := dos_nodup cs (puts_nodup l (by simp))
/-- What a key has behind a change. -/
def lastC (k : List UInt8) (o : Option ByteArray) (c : Chg) : Option ByteArray := if k = c.key.data.toList then (if c.gone then none else some c.value) else o
theorem look_do (c : Chg) (k : List UInt8) {m : List Pair} (h : (m.map Pair.k).Nodup) : look (doM m c) k = lastC k (look m k) c := by
  unfold doM lastC
  cases hg : c.gone with
  | true => rw [if_pos rfl, look_del _ _ _ h]; simp
  | false => rw [if_neg (by simp), look_put]; simp [Pair.k]
theorem look_dos (k : List UInt8) : ∀ (cs : List Chg) {m : List Pair}, (m.map Pair.k).Nodup → look (cs.foldl doM m) k = cs.foldl (lastC k) (look m k)
  | [], _, _ => rfl
  | c :: r, m, h => by rw [List.foldl_cons, List.foldl_cons, look_dos k r (do_nodup c h), look_do c k h]
theorem look_puts (k : List UInt8) : ∀ (l : List Pair) (m : List Pair), (l.map Pair.k).Nodup → look (l.foldl putM m) k = (look l k).or (look m k)
  | [], _, _ => by rw [look_nil]; simp
  | q :: r, m, h => by
    rw [List.map_cons, List.nodup_cons] at h
    rw [List.foldl_cons, look_puts k r _ h.2, look_put, look_cons]
    by_cases e : k = q.k
    · rw [if_pos e, if_pos e, look_none (by rw [e]; exact h.1)]; rfl
    · rw [if_neg e, if_neg e]
theorem look_apply (k : List UInt8) (l : List Pair) (cs : List Chg) (h : (l.map Pair.k).Nodup) : look (applyM l cs) k = cs.foldl (lastC k) (look l k) := by
  unfold applyM
  rw [look_dos k cs (puts_nodup l (by simp)), look_puts k l [] h, look_nil]; simp
theorem lasts_or (k : List UInt8) : ∀ cs : List Chg, (∀ o, cs.foldl (lastC k) o = o) ∨ ∃ r, ∀ o, cs.foldl (lastC k) o = r
  | [] => .inl fun _ => rfl
  | c :: r => by
    by_cases e : k = c.key.data.toList
    · exact .inr ⟨r.foldl (lastC k) (if c.gone then none else some c.value), fun o => by rw [List.foldl_cons]; congr 1; unfold lastC; rw [if_pos e]⟩
    · have h1 : ∀ o, lastC k o c = o := fun o => by unfold lastC; rw [if_neg e]
      rcases lasts_or k r with h | ⟨x, h⟩
      · exact .inl fun o => by rw [List.foldl_cons, h, h1]
      · exact .inr ⟨x, fun o => by rw [List.foldl_cons, h]⟩
theorem lasts_twice (k : List UInt8) (cs : List Chg) (o : Option ByteArray) : cs.foldl (lastC k) (cs.foldl (lastC k) o) = cs.foldl (lastC k) o := by
  rcases lasts_or k cs with h | ⟨r, h⟩
  · rw [h, h]
  · rw [h, h]
/-! In order. -/
theorem lt_list : ∀ (a b : List UInt8), Lt a b ↔ a < b
  | a, [] => ⟨fun h => absurd h (not_lt_nil _), fun h => absurd h (List.not_lt_nil _)⟩
  | [], b :: y => ⟨fun _ => List.nil_lt_cons _ _, fun _ => nil_lt⟩
  | a :: x, b :: y => by rw [lt_cons, List.cons_lt_cons_iff, lt_list x y]
theorem lt_tri : ∀ (a b : List UInt8), Lt a b ∨ a = b ∨ Lt b a
  | [], [] => .inr (.inl rfl)
  | [], _ :: _ => .inl nil_lt
  | _ :: _, [] => .inr (.inr nil_lt)
  | a :: x, b :: y => by
    rcases Nat.lt_trichotomy a.toNat b.toNat with h | h | h
    · exact .inl (lt_cons.2 (.inl (UInt8.lt_iff_toNat_lt.2 h)))
    · have e := UInt8.toNat_inj.1 h
      subst e
      rcases lt_tri x y with h | h | h
      · exact .inl (lt_cons.2 (.inr ⟨rfl, h⟩))
      · exact .inr (.inl (by rw [h]))
      · exact .inr (.inr (lt_cons.2 (.inr ⟨rfl, h⟩)))
    · exact .inr (.inr (lt_cons.2 (.inl (UInt8.lt_iff_toNat_lt.2 h))))
def Rises (l : List Pair) : Prop := l.Pairwise fun p q => Lt p.k q.k
theorem Rises.nodup {l : List Pair} (h : Rises l) : (l.map Pair.k).Nodup := by
  unfold List.Nodup
  rw [List.pairwise_map]
  refine h.imp fun {p q} h => ?_
  intro e
  rw [e] at h
  exact lt_irrefl _ h
theorem sortS_mem (ks : List (List UInt8)) (k : List UInt8) : k ∈ sortS ks ↔ k ∈ ks := (List.mergeSort_perm _ _).mem_iff
theorem sortS_rises {ks : List (List UInt8)} (h : ks.Nodup) : (sortS ks).Pairwise Lt := by
  have tr : ∀ a b c : List UInt8, decide (a ≤ b) = true → decide (b ≤ c) = true → decide (a ≤ c) = true := fun a b c h1 h2 => by simp only [decide_eq_true_eq] at *; exact List.le_trans h1 h2
  have to : ∀ a b : List UInt8, (decide (a ≤ b) || decide (b ≤ a)) = true := fun a b => by simp only [Bool.or_eq_true, decide_eq_true_eq]; exact List.le_total a b
  have h1 : (sortS ks).Pairwise (fun x y => decide (x ≤ y) = true) := List.pairwise_mergeSort tr to ks
  have h2 : (sortS ks).Nodup := (List.mergeSort_perm _ _).nodup_iff.2 h
  refine (h1.and h2).imp fun {a b} h => ?_
  have h3 : a ≤ b := by simpa using h.1
  rcases lt_tri a b with e | e | e
  · exact e
  · exact absurd e h.2
  · exact absurd ((lt_list _ _).1 e) (List.not_lt.2 h3)
theorem sortM_keys (m : List Pair) : (sortM m).map Pair.k = sortS (m.map Pair.k) := by
  unfold sortM
  rw [List.map_map]
  conv => rhs; rw [← List.map_id (sortS (m.map Pair.k))]
  exact List.map_congr_left fun k _ => rfl
theorem sortM_len (m : List Pair) : (sortM m).length = m.length := by
  unfold sortM; rw [List.length_map, sortS_len, List.length_map]
theorem sortM_rises {m : List Pair} (h : (m.map Pair.k).Nodup) : Rises (sortM m) := by
  have h1 := sortS_rises h
  rw [← sortM_keys, List.pairwise_map] at h1
  exact h1
theorem look_keys (f : List UInt8 → ByteArray) (k : List UInt8) : ∀ ks : List (List UInt8), look (ks.map fun x => ((⟨x.toArray⟩, f x) : Pair)) k = if k ∈ ks then some (f k) else none
  | [] => rfl
  | x :: r => by
    rw [List.map_cons, look_cons, look_keys f k r]
    have e : Pair.k ((⟨x.toArray⟩, f x) : Pair) = x := rfl
    rw [e]
    by_cases h : k = x
    · rw [if_pos h, if_pos (by simp [h])]; simp [h]
    · rw [if_neg h]
      by_cases h2 : k ∈ r
      · rw [if_pos h2, if_pos (List.mem_cons_of_mem _ h2)]
      · rw [if_neg h2, if_neg (by rw [List.mem_cons]; exact fun e => e.elim h h2)]
theorem look_sort (m : List Pair) (k : List UInt8) : look (sortM m) k = look m k := by
  unfold sortM
  rw [look_keys]
  by_cases h : k ∈ m.map Pair.k
  · rw [if_pos ((sortS_mem _ _).2 h)]
    obtain ⟨v, hv⟩ := look_some h
    rw [valM_look, hv]; rfl
  · rw [if_neg (fun e => h ((sortS_mem _ _).1 e)), look_none h]
theorem pair_ext {p q : Pair} (h1 : p.k = q.k) (h2 : p.2 = q.2) : p = q := by
  obtain ⟨⟨⟨a⟩⟩, b⟩ := p
  obtain ⟨⟨⟨c⟩⟩, d⟩ := q
  simp only [Pair.k] at h1 h2
  subst h1; subst h2; rfl
/-- Two maps in order that have the same of each key are the same. -/
theorem rises_ext : ∀ {a b : List Pair}, Rises a → Rises b → (∀ k, look a k = look b k) → a = b
  | [], [], _, _, _ => rfl
  | [], q :: b, _, _, h => by have := h q.k; rw [look_cons, if_pos rfl] at this; cases this
  | p :: a, [], _, _, h => by have := h p.k; rw [look_cons, if_pos rfl] at this; cases this
  | p :: a, q :: b, h1, h2, h => by
    have hp := List.pairwise_cons.1 h1
    have hq := List.pairwise_cons.1 h2
    have out : ∀ (x : List UInt8) (y : Pair) (m : List Pair), (∀ z ∈ m, Lt y.k z.k) → Lt x y.k → look (y :: m) x = none := fun x y m hm hl => by
      refine look_none fun hmem => ?_
      rw [List.map_cons, List.mem_cons] at hmem
      rcases hmem with e | hmem
      · exact lt_irrefl _ (e ▸ hl)
      · obtain ⟨z, hz, e⟩ := List.mem_map.1 hmem
        exact lt_irrefl _ (lt_trans' _ _ _ hl (e ▸ hm z hz))
    have hk : p.k = q.k := by
      rcases lt_tri p.k q.k with e | e | e
      · have := h p.k
        rw [out p.k q b hq.1 e, look_cons, if_pos rfl] at this; cases this
      · exact e
      · have := h q.k
        rw [out q.k p a hp.1 e, look_cons, if_pos rfl] at this; cases this
    have hv : p.2 = q.2 := by
      have := h p.k
      rw [look_cons, if_pos rfl, look_cons, if_pos hk] at this
      exact Option.some.inj this
    have e := pair_ext hk hv
    subst e
    have : a = b := rises_ext hp.2 hq.2 fun k => by
      have hh := h k
      rw [look_cons, look_cons] at hh
      by_cases e : k = p.k
      · have n1 : ∀ m : List Pair, (∀ z ∈ m, Lt p.k z.k) → look m k = none := fun m hm => look_none fun hmem => by
          obtain ⟨z, hz, e2⟩ := List.mem_map.1 hmem
          have := hm z hz
          rw [e2, e] at this; exact lt_irrefl _ this
        rw [n1 a hp.1, n1 b hq.1]
      · rwa [if_neg e, if_neg e] at hh
    rw [this]
/-! Changes that are done. -/
def okP (p : Pair) : Prop := keyedB p.1 = true ∧ valuedB p.2 = true
theorem put_mem {p x : Pair} : ∀ {m : List Pair}, x ∈ putM m p → x = p ∨ x ∈ m
  | [], h => .inl (by simpa [putM] using h)
  | q :: r, h => by
    rw [putM] at h
    split at h
    · rcases List.mem_cons.1 h with h | h
      · exact .inl h
      · exact .inr (List.mem_cons_of_mem _ h)
    · rcases List.mem_cons.1 h with h | h
      · exact .inr (h ▸ List.mem_cons_self)
      · exact (put_mem h).imp id (List.mem_cons_of_mem _)
theorem delM_sub (k : ByteArray) : ∀ m : List Pair, (delM m k).Sublist m
  | [] => List.Sublist.refl _
  | x :: r => by
    unfold delM
    split
    · exact List.sublist_cons_self _ _
    · exact (delM_sub k r).cons_cons _
theorem puts_ok : ∀ (l : List Pair) {m : List Pair}, (∀ p ∈ l, okP p) → (∀ p ∈ m, okP p) → ∀ p ∈ l.foldl putM m, okP p
  | [], _, _, h => h
  | q :: r, m, h1, h2 => puts_ok r (fun p hp => h1 p (List.mem_cons_of_mem _ hp)) fun p hp => (put_mem hp).elim (fun e => e ▸ h1 q List.mem_cons_self) (h2 p)
theorem dos_ok : ∀ (cs : List Chg) {m : List Pair}, cs.any Chg.bad = false → (∀ p ∈ m, okP p) → ∀ p ∈ cs.foldl doM m, okP p
  | [], _, _, h => h
  | c :: r, m, h1, h2 => by
    rw [List.any_cons, Bool.or_eq_false_iff] at h1
    refine dos_ok r h1.2 fun p hp => ?_
    unfold doM at hp
    have hb := h1.1
    unfold Chg.bad at hb
    cases hg : c.gone with
    | true => rw [if_pos hg] at hp; exact h2 p ((delM_sub _ _).subset hp)
    | false =>
      rw [if_neg (by rw [hg]; simp)] at hp
      rcases put_mem hp with rfl | hp
      · simp [hg] at hb; exact hb
      · exact h2 p hp
theorem map_okP {l : List Pair} (h : checkN l = 0) : ∀ p ∈ l, okP p := fun p hp => by
  obtain ⟨h1, h2, h3, h4⟩ := (check_ok h).size p hp
  exact ⟨decide_eq_true ⟨h1, h2⟩, decide_eq_true ⟨h3, h4⟩⟩
theorem apply_okP {l : List Pair} {cs : List Chg} (h : checkN l = 0) (hc : cs.any Chg.bad = false) : ∀ p ∈ applyM l cs, okP p :=
  dos_ok cs hc (puts_ok l (map_okP h) (by simp))
theorem ok_check {l : List Pair} (h1 : ∀ p ∈ l, okP p) (h2 : Rises l) (h3 : l.length ≤ 40) : checkN l = 0 := by
  unfold checkN
  rw [if_neg, if_neg (by omega)]
  intro h
  obtain ⟨i, hi, hb⟩ := List.any_eq_true.1 h
  have hi := List.mem_range.1 hi
  have g : ∀ j (hj : j < l.length), l.getD j (⟨#[]⟩, ⟨#[]⟩) = l[j] := fun j hj => by rw [List.getD_eq_getElem?_getD, List.getElem?_eq_getElem hj]; rfl
  unfold badN at hb
  rw [g i hi, (h1 _ (List.getElem_mem hi)).1, (h1 _ (List.getElem_mem hi)).2] at hb
  simp only [Bool.not_true, Bool.or_self, Bool.false_or, Bool.and_eq_true, decide_eq_true_eq, Bool.not_eq_true'] at hb
  rw [g (i - 1) (by omega)] at hb
  have := List.pairwise_iff_getElem.1 h2 (i - 1) i (by omega) hi (by omega)
  have h4 := hb.2
  unfold lessB at h4
  rw [ByteArray.toList_eq, ByteArray.toList_eq] at h4
  have h5 : Op.bytesLess (l[i - 1]).1.data.toList (l[i]).1.data.toList = true := this
  rw [h5] at h4; cases h4
theorem apply_parts {l : List Pair} {cs : List Chg} (h : applyE l cs = 0) : checkN l = 0 ∧ cs.any Chg.bad = false ∧ (applyM l cs).length ≤ 40 := by
  unfold applyE at h
  split at h
  · rename_i h1; exact absurd h h1
  rename_i h1
  split at h
  · cases h
  rename_i h2
  split at h
  · cases h
  rename_i h3
  exact ⟨by simpa using h1, by simpa using h2, by omega⟩
theorem after_okP {m : List Pair} (h : ∀ p ∈ m, okP p) : ∀ p ∈ sortM m, okP p := fun p hp => by
  obtain ⟨k, hk, rfl⟩ := List.mem_map.1 hp
  obtain ⟨v, hv⟩ := look_some ((sortS_mem _ _).1 hk)
  obtain ⟨q, hq, e1, e2⟩ := look_mem hv
  have := h q hq
  rw [valM_look, hv]
  have e : ((⟨k.toArray⟩, (some v).getD ⟨#[]⟩) : Pair) = q := pair_ext e1.symm e2.symm
  rw [e]; exact this
theorem after_check {l : List Pair} {cs : List Chg} (h : applyE l cs = 0) : checkN (sortM (applyM l cs)) = 0 := by
  obtain ⟨h1, h2, h3⟩ := apply_parts h
  exact ok_check (after_okP (apply_okP h1 h2)) (sortM_rises (apply_nodup l cs)) (by rw [sortM_len]; exact h3)
theorem look_after {l : List Pair} (h : checkN l = 0) (cs : List Chg) (k : List UInt8) : look (sortM (applyM l cs)) k = cs.foldl (lastC k) (look l k) := by
  rw [look_sort, look_apply k l cs (Rises.nodup (check_ok h).rise)]
/-- Done twice is done once. -/
theorem after_twice {l : List Pair} {cs : List Chg} (h : applyE l cs = 0) : applyE (sortM (applyM l cs)) cs = 0 ∧ sortM (applyM (sortM (applyM l cs)) cs) = sortM (applyM l cs) := by
  obtain ⟨h1, h2, h3⟩ := apply_parts h
  have hc := after_check h
  have he : sortM (applyM (sortM (applyM l cs)) cs) = sortM (applyM l cs) := by
    refine rises_ext (sortM_rises (apply_nodup _ _)) (check_ok hc).rise fun k => ?_
    rw [look_after hc, look_after h1, lasts_twice]
  refine ⟨?_, he⟩
  have hl := congrArg List.length he
  rw [sortM_len] at hl
  unfold applyE
  rw [if_neg (by rw [hc]; simp), if_neg (by rw [h2]; simp), if_neg (by rw [hl, sortM_len]; omega)]
theorem findB_look (k : ByteArray) : ∀ l : List Pair, findB l k = look l k.data.toList
  | [] => rfl
  | q :: r => by
    have ih := findB_look k r
    unfold findB keyAt at *
    rw [look_cons, List.findIdx?_cons]
    by_cases h : k.data.toList = q.k
    · have : (q.1.toList == k.toList) = true := by rw [ByteArray.toList_eq, ByteArray.toList_eq]; simpa using h.symm
      rw [if_pos h, this]; rfl
    · have : (q.1.toList == k.toList) = false := by
        rw [ByteArray.toList_eq, ByteArray.toList_eq, Bool.eq_false_iff]
        intro e
        exact h (eq_of_beq e).symm
      rw [if_neg h, this, ← ih]
      cases List.findIdx? (fun p => p.1.toList == k.toList) r <;> rfl
end
end Go.Proofs.YtolhikjjchfnjaaGreatDoor
/- What makes one map of another one; plain. -/
namespace Go.Proofs.YtolhikjjchfnjaaGreatDoor
section
open Go Go.RowKit
set_option linter.unusedSimpArgs false
set_option linter.unusedVariables false
abbrev Chg.k (c : Chg) : List UInt8 := c.key.data.toList
/-- What a change leaves. -/
def Chg.o (c : Chg) : Option ByteArray := if c.gone then none else some c.value
theorem lasts_none {k : List UInt8} : ∀ {cs : List Chg}, (∀ c ∈ cs, c.k ≠ k) → ∀ o, cs.foldl (lastC k) o = o
  | [], _, _ => rfl
  | c :: r, h, o => by
    have e : lastC k o c = o := by unfold lastC; rw [if_neg (fun e => h c List.mem_cons_self e.symm)]
    rw [List.foldl_cons, e, lasts_none fun x hx => h x (List.mem_cons_of_mem _ hx)]
theorem lasts_mem {c : Chg} : ∀ {cs : List Chg}, c ∈ cs → (cs.map Chg.k).Nodup → ∀ o, cs.foldl (lastC c.k) o = c.o
  | [], h, _, _ => by cases h
  | d :: r, h, hn, o => by
    rw [List.map_cons, List.nodup_cons] at hn
    rw [List.foldl_cons]
    rcases List.mem_cons.1 h with rfl | h
    · rw [lasts_none fun x hx e => hn.1 (by rw [← e]; exact List.mem_map_of_mem hx)]
      unfold lastC Chg.o; rw [if_pos rfl]
    · exact lasts_mem h hn.2 _
/-- Changes that make m of l. -/
structure Makes (l m : List Pair) (cs : List Chg) : Prop where
  keys : (cs.map Chg.k).Nodup
  done : ∀ c ∈ cs, look m c.k = c.o
  rest : ∀ k, (∀ c ∈ cs, c.k ≠ k) → look l k = look m k
  fine : cs.any Chg.bad = false
theorem Makes.looks {l m : List Pair} {cs : List Chg} (h : Makes l m cs) (k : List UInt8) : cs.foldl (lastC k) (look l k) = look m k := by
  by_cases hk : ∃ c ∈ cs, c.k = k
  · obtain ⟨c, hc, rfl⟩ := hk
    rw [lasts_mem hc h.keys, h.done c hc]
  · have hn : ∀ c ∈ cs, c.k ≠ k := fun c hc e => hk ⟨c, hc, e⟩
    rw [lasts_none hn, h.rest k hn]
theorem Makes.perm {l m : List Pair} {cs ds : List Chg} (h : Makes l m cs) (p : ds.Perm cs) : Makes l m ds :=
  ⟨(p.map Chg.k).nodup_iff.2 h.keys, fun c hc => h.done c (p.mem_iff.1 hc), fun k hk => h.rest k fun c hc => hk c (p.mem_iff.2 hc), by
    rw [Bool.eq_false_iff]; intro hh
    obtain ⟨c, hc, hb⟩ := List.any_eq_true.1 hh
    have : cs.any Chg.bad = true := List.any_eq_true.2 ⟨c, p.mem_iff.1 hc, hb⟩
    rw [h.fine] at this; cases this⟩
theorem Makes.after {l m : List Pair} {cs : List Chg} (h : Makes l m cs) (h1 : checkN l = 0) (h2 : checkN m = 0) : applyE l cs = 0 ∧ sortM (applyM l cs) = m := by
  have he : sortM (applyM l cs) = m := by
    refine rises_ext (sortM_rises (apply_nodup _ _)) (check_ok h2).rise fun k => ?_
    rw [look_after h1, h.looks]
  refine ⟨?_, he⟩
  have hl := congrArg List.length he
  rw [sortM_len] at hl
  have := (check_ok h2).len
  unfold applyE
  rw [if_neg (by rw [h1]; simp), if_neg (by rw [h.fine]; simp), if_neg (by omega)]
def okL (l : List Pair) : Prop := (∀ p ∈ l, okP p) ∧ Rises l
theorem okL.tail {p : Pair} {l : List Pair} (h : okL (p :: l)) : okL l := ⟨fun q hq => h.1 q (List.mem_cons_of_mem _ hq), (List.pairwise_cons.1 h.2).2⟩
theorem okL.head {p : Pair} {l : List Pair} (h : okL (p :: l)) : okP p := h.1 p List.mem_cons_self
theorem okL.lt {p : Pair} {l : List Pair} (h : okL (p :: l)) : ∀ q ∈ l, Lt p.k q.k := (List.pairwise_cons.1 h.2).1
theorem lessB_iff (a b : ByteArray) : lessB a b = true ↔ Lt a.data.toList b.data.toList := by
  unfold lessB; rw [ByteArray.toList_eq, ByteArray.toList_eq]
/-- Keys of what is told stand in one of both. -/
theorem diffL_keys (l m : List Pair) : ∀ c ∈ diffL l m, c.k ∈ l.map Pair.k ∨ c.k ∈ m.map Pair.k := by
  fun_induction diffL l m with
  | case1 => intro c hc; cases hc
  | case2 p l ih =>
    intro c hc
    rcases List.mem_cons.1 hc with rfl | hc
    · exact .inl (by simp [Chg.k, Pair.k])
    · rcases ih c hc with h | h
      · exact .inl (List.mem_cons_of_mem _ h)
      · exact .inr h
  | case3 q m ih =>
    intro c hc
    rcases List.mem_cons.1 hc with rfl | hc
    · exact .inr (by simp [Chg.k, Pair.k])
    · rcases ih c hc with h | h
      · exact .inl h
      · exact .inr (List.mem_cons_of_mem _ h)
  | case4 p l q m h ih =>
    intro c hc
    rcases List.mem_cons.1 hc with rfl | hc
    · exact .inl (by simp [Chg.k, Pair.k])
    · rcases ih c hc with h | h
      · exact .inl (List.mem_cons_of_mem _ h)
      · exact .inr h
  | case5 p l q m h h2 ih =>
    intro c hc
    rcases List.mem_cons.1 hc with rfl | hc
    · exact .inr (by simp [Chg.k, Pair.k])
    · rcases ih c hc with h | h
      · exact .inl h
      · exact .inr (List.mem_cons_of_mem _ h)
  | case6 p l q m h h2 h3 ih =>
    intro c hc
    rcases ih c hc with h | h
    · exact .inl (List.mem_cons_of_mem _ h)
    · exact .inr (List.mem_cons_of_mem _ h)
  | case7 p l q m h h2 h3 ih =>
    intro c hc
    rcases List.mem_cons.1 hc with rfl | hc
    · exact .inr (by simp [Chg.k, Pair.k])
    · rcases ih c hc with h | h
      · exact .inl (List.mem_cons_of_mem _ h)
      · exact .inr (List.mem_cons_of_mem _ h)
theorem look_small {k : List UInt8} {m : List Pair} (h : ∀ q ∈ m, Lt k q.k) : look m k = none := look_none fun hm => by
  obtain ⟨q, hq, e⟩ := List.mem_map.1 hm
  exact lt_irrefl _ (e ▸ h q hq)
theorem keys_lt {k : List UInt8} {l m : List Pair} (h1 : ∀ q ∈ l, Lt k q.k) (h2 : ∀ q ∈ m, Lt k q.k) : ∀ c ∈ diffL l m, Lt k c.k := fun c hc => by
  rcases diffL_keys l m c hc with h | h
  · obtain ⟨q, hq, e⟩ := List.mem_map.1 h; rw [← e]; exact h1 q hq
  · obtain ⟨q, hq, e⟩ := List.mem_map.1 h; rw [← e]; exact h2 q hq
/-- One change ahead of those that make the rest. -/
theorem Makes.cons {l m l' m' : List Pair} {c : Chg} {cs : List Chg} (h : Makes l m cs) (hk : ∀ d ∈ cs, Lt c.k d.k) (hc : look m' c.k = c.o) (hb : c.bad = false)
    (hl : ∀ k, k ≠ c.k → look l' k = look l k) (hm : ∀ k, k ≠ c.k → look m' k = look m k) : Makes l' m' (c :: cs) := by
  refine ⟨?_, ?_, ?_, ?_⟩
  · rw [List.map_cons, List.nodup_cons]
    refine ⟨fun hh => ?_, h.keys⟩
    obtain ⟨d, hd, e⟩ := List.mem_map.1 hh
    exact lt_irrefl _ (e ▸ hk d hd)
  · intro d hd
    rcases List.mem_cons.1 hd with rfl | hd
    · exact hc
    · rw [hm _ (fun e => lt_irrefl _ (e ▸ hk d hd)), h.done d hd]
  · intro k hh
    have h1 : k ≠ c.k := fun e => hh c List.mem_cons_self e.symm
    rw [hl k h1, hm k h1, h.rest k fun d hd => hh d (List.mem_cons_of_mem _ hd)]
  · rw [List.any_cons, hb, h.fine]; rfl
theorem gone_ok {p : Pair} (h : okP p) : Chg.bad ⟨p.1, ⟨#[]⟩, true⟩ = false := by
  unfold Chg.bad; rw [h.1]; rfl
theorem put_ok {p : Pair} (h : okP p) : Chg.bad ⟨p.1, p.2, false⟩ = false := by
  unfold Chg.bad; rw [h.1, h.2]; rfl
theorem look_head (q : Pair) (m : List Pair) : look (q :: m) q.k = some q.2 := by rw [look_cons, if_pos rfl]
theorem look_tail {q : Pair} {m : List Pair} {k : List UInt8} (h : k ≠ q.k) : look (q :: m) k = look m k := by rw [look_cons, if_neg h]
theorem makes : ∀ (l m : List Pair), okL l → okL m → Makes l m (diffL l m) := by
  intro l m
  fun_induction diffL l m with
  | case1 => exact fun _ _ => ⟨by simp, by simp, fun _ _ => rfl, rfl⟩
  | case2 p l ih =>
    intro h1 h2
    refine (ih h1.tail h2).cons (keys_lt h1.lt (by simp)) rfl (gone_ok h1.head) (fun k hk => look_tail hk) (fun _ _ => rfl)
  | case3 q m ih =>
    intro h1 h2
    exact (ih h1 h2.tail).cons (keys_lt (by simp) h2.lt) (look_head q m) (put_ok h2.head) (fun _ _ => rfl) (fun k hk => look_tail hk)
  | case4 p l q m h ih =>
    intro h1 h2
    have hl := (lessB_iff _ _).1 h
    have hq : ∀ x ∈ q :: m, Lt p.k x.k := fun x hx => by
      rcases List.mem_cons.1 hx with rfl | hx
      · exact hl
      · exact lt_trans' _ _ _ hl (h2.lt x hx)
    refine (ih h1.tail h2).cons (keys_lt h1.lt hq) (look_small hq) (gone_ok h1.head) (fun k hk => look_tail hk) (fun _ _ => rfl)
  | case5 p l q m h h' ih =>
    intro h1 h2
    have hl := (lessB_iff _ _).1 h'
    have hp : ∀ x ∈ p :: l, Lt q.k x.k := fun x hx => by
      rcases List.mem_cons.1 hx with rfl | hx
      · exact hl
      · exact lt_trans' _ _ _ hl (h1.lt x hx)
    exact (ih h1 h2.tail).cons (keys_lt hp h2.lt) (look_head q m) (put_ok h2.head) (fun _ _ => rfl) (fun k hk => look_tail hk)
  | case6 p l q m h h' h3 ih =>
    intro h1 h2
    have hk : p.k = q.k := by
      rcases lt_tri p.k q.k with e | e | e
      · exact absurd ((lessB_iff _ _).2 e) h
      · exact e
      · exact absurd ((lessB_iff _ _).2 e) h'
    have hv : p.2 = q.2 := by
      rw [ByteArray.toList_eq, ByteArray.toList_eq] at h3
      obtain ⟨⟨⟨a⟩⟩, ⟨⟨b⟩⟩⟩ := p
      obtain ⟨⟨⟨c⟩⟩, ⟨⟨d⟩⟩⟩ := q
      simp at h3; simp [h3]
    have := pair_ext hk hv
    subst this
    have hi := ih h1.tail h2.tail
    have hlt := keys_lt h1.lt h2.lt
    refine ⟨hi.keys, fun c hc => ?_, fun k hh => ?_, hi.fine⟩
    · rw [look_tail (fun e => lt_irrefl _ (e ▸ hlt c hc)), hi.done c hc]
    · by_cases e : k = p.k
      · rw [e, look_head, look_head]
      · rw [look_tail e, look_tail e, hi.rest k hh]
  | case7 p l q m h h' h3 ih =>
    intro h1 h2
    have hk : p.k = q.k := by
      rcases lt_tri p.k q.k with e | e | e
      · exact absurd ((lessB_iff _ _).2 e) h
      · exact e
      · exact absurd ((lessB_iff _ _).2 e) h'
    have hlt := keys_lt (fun x hx => hk ▸ h1.lt x hx) h2.lt
    exact (ih h1.tail h2.tail).cons hlt (look_head q m) (put_ok h2.head) (fun k e => look_tail (by rw [hk]; exact e)) (fun k e => look_tail e)
theorem check_okL {l : List Pair} (h : checkN l = 0) : okL l := ⟨map_okP h, (check_ok h).rise⟩
theorem diff_makes {l m : List Pair} (h1 : checkN l = 0) (h2 : checkN m = 0) : Makes l m (diffN l m) := by
  unfold diffN; rw [if_pos ⟨h1, h2⟩]; exact makes l m (check_okL h1) (check_okL h2)
theorem diffL_self : ∀ l : List Pair, diffL l l = []
  | [] => by rw [diffL]
  | p :: l => by
    rw [diffL, if_neg, if_neg, if_pos (by simp), diffL_self l]
    · intro h; exact lt_irrefl _ ((lessB_iff _ _).1 h)
    · intro h; exact lt_irrefl _ ((lessB_iff _ _).1 h)
theorem diffN_self (l : List Pair) : diffN l l = [] := by unfold diffN; split; exact diffL_self l; rfl
end
end Go.Proofs.YtolhikjjchfnjaaGreatDoor
/- canon, plain: how many nodes a trie has; each value stands in one of them. -/
namespace Go.Proofs.YtolhikjjchfnjaaGreatDoor
section
open Go Go.RowKit
set_option linter.unusedSimpArgs false
set_option linter.unusedVariables false
/-- A text stands in another one. -/
def Inf (v t : ByteArray) : Prop := v.data.toList <:+: t.data.toList
theorem Inf.trans {a b c : ByteArray} (h : Inf a b) (k : Inf b c) : Inf a c := List.IsInfix.trans h k
theorem Inf.rfl' (a : ByteArray) : Inf a a := List.infix_refl _
theorem inf_append_right (a b : ByteArray) : Inf b (a ++ b) := ⟨a.data.toList, [], by rw [ByteArray.data_append, Array.toList_append, List.append_nil]⟩
theorem inf_text (v : ByteArray) : Inf v (textB v) := by
  unfold textB; split
  · exact Inf.rfl' v
  · exact inf_append_right _ _
theorem inf_cat {x : ByteArray} : ∀ {l : List ByteArray}, x ∈ l → Inf x (catB l)
  | y :: l, h => by
    rcases List.mem_cons.1 h with rfl | h
    · refine ⟨[], (l.map (·.data.toList)).flatten, ?_⟩
      show _ = x.data.toList ++ (l.map (·.data.toList)).flatten
      simp
    · obtain ⟨s, t, e⟩ := inf_cat h
      have e : s ++ x.data.toList ++ t = (l.map (·.data.toList)).flatten := e
      refine ⟨y.data.toList ++ s, t, ?_⟩
      show _ = y.data.toList ++ (l.map (·.data.toList)).flatten
      rw [← e]; simp
theorem inf_list {x : ByteArray} {l : List ByteArray} (h : x ∈ l) : Inf x (listB l) := (inf_cat h).trans (inf_append_right _ _)
theorem flatTs_mem {t : ByteArray} : ∀ {ks : List PT}, t ∈ flatTs ks ↔ ∃ T ∈ ks, t ∈ flatT T
  | [] => by simp [flatTs]
  | T :: ks => by
    unfold flatTs
    rw [List.mem_append, flatTs_mem (ks := ks)]
    constructor
    · rintro (h | ⟨T', h1, h2⟩)
      · exact ⟨T, List.mem_cons_self, h⟩
      · exact ⟨T', List.mem_cons_of_mem _ h1, h2⟩
    · rintro ⟨T', h1, h2⟩
      rcases List.mem_cons.1 h1 with rfl | h1
      · exact .inl h2
      · exact .inr ⟨T', h1, h2⟩
/-- What stands in a kid's texts stands in those that are held, or in its ref. -/
theorem Stands.inf {f : Nat} {T : PT} {n : NodeT} (h : Stands f T n) {v t : ByteArray} (ht : t ∈ flatT T) (hv : Inf v t) : (∃ t ∈ flatTs (heldK T), Inf v t) ∨ Inf v (refB T.text) := by
  by_cases hs : T.text.size < 32
  · have hk := h.small hs
    obtain ⟨x, ks⟩ := T
    have hk : ks = [] := hk
    subst hk
    unfold flatT flatTs at ht
    rw [List.mem_singleton] at ht
    right
    unfold refB; rw [if_pos hs, ← (show t = (PT.mk x []).text from ht)]; exact hv
  · left
    refine ⟨t, ?_, hv⟩
    unfold heldK; rw [if_neg hs, flatTs_mem]
    exact ⟨T, List.mem_singleton.2 rfl, ht⟩
/-- How many parts of rows there are, by their first nibbles. -/
def partsN (l : List Pair) : Nat → Nat
  | 0 => 0
  | n + 1 => partsN l n + (if (cutL n l).length = 0 then 0 else 1)
theorem parts_mono (l : List Pair) (n : Nat) : ∀ d, partsN l n ≤ partsN l (n + d)
  | 0 => Nat.le_refl _
  | d + 1 => by have := parts_mono l n d; rw [show n + (d + 1) = (n + d) + 1 from rfl, partsN]; omega
theorem parts_one {l : List Pair} {i n : Nat} (h : (cutL i l).length ≠ 0) (hi : i < n) : 1 ≤ partsN l n := by
  have := parts_mono l (i + 1) (n - (i + 1))
  rw [show i + 1 + (n - (i + 1)) = n by omega, partsN, if_neg h] at this
  omega
theorem parts_two {l : List Pair} {i j n : Nat} (h : (cutL i l).length ≠ 0) (hj : (cutL j l).length ≠ 0) (hij : i < j) (hn : j < n) : 2 ≤ partsN l n := by
  have h1 := parts_one h hij
  have := parts_mono l (j + 1) (n - (j + 1))
  rw [show j + 1 + (n - (j + 1)) = n by omega, partsN, if_neg hj] at this
  omega
theorem ks_grow (B : List Pair → PT) (l : List Pair) (hB : ∀ i, (cutL i l).length ≠ 0 → (flatT (B (dropL 1 (cutL i l)))).length + 2 ≤ 3 * (cutL i l).length) : ∀ n, (flatTs (ksK B l n)).length + 2 * partsN l n ≤ 3 * cutSum l n
  | 0 => by simp [ksK, flatTs, cutSum, partsN]
  | n + 1 => by
    rw [ksK_step, flatTs_append, List.length_append, cutSum, partsN]
    have := ks_grow B l hB n
    by_cases h0 : (cutL n l).length = 0
    · rw [if_pos h0, if_pos h0]; simp [flatTs]; omega
    · rw [if_neg h0, if_neg h0]
      have h1 := hB n h0
      have h2 := held_le (B (dropL 1 (cutL n l)))
      omega
theorem cutSum_lt {l : List Pair} (h : ∃ p ∈ l, p.l = []) (n : Nat) : cutSum l n + 1 ≤ l.length := by
  obtain ⟨p, hp, e⟩ := h
  induction l with
  | nil => cases hp
  | cons q r ih =>
    rw [cutSum_cons, List.length_cons]
    rcases List.mem_cons.1 hp with rfl | hp
    · have := cutSum_le r n
      rw [e]
      have : hN [] n = 0 := rfl
      omega
    · have := ih hp
      have := hN_le q.l n
      omega
theorem cut_in {l : List Pair} {p : Pair} {x : UInt8} {r : List UInt8} (hp : p ∈ l) (hpx : p.l = x :: r) : p ∈ cutL x.toNat l := List.mem_filter.2 ⟨hp, by unfold pickB; rw [show p.1.data.toList = x :: r from hpx]; simp⟩
theorem cut_len {l : List Pair} {p : Pair} {x : UInt8} {r : List UInt8} (hp : p ∈ l) (hpx : p.l = x :: r) : (cutL x.toNat l).length ≠ 0 := fun h0 => by
  have := cut_in hp hpx
  rw [List.eq_nil_of_length_eq_zero h0] at this; cases this
theorem drop_mem {k : Nat} {l : List Pair} {p : Pair} (h : p ∈ l) : ∃ q ∈ dropL k l, q.2 = p.2 := ⟨_, List.mem_map_of_mem h, rfl⟩
structure GrowP (T : PT) (l : List Pair) : Prop where
  all : (flatT T).length + 2 ≤ 3 * l.length
  two : 2 ≤ l.length → comK l = 0 → (flatT T).length + 3 ≤ 3 * l.length
  inf : ∀ p ∈ l, ∃ t ∈ flatT T, Inf p.2 t
theorem grow_one (f : Nat) {l : List Pair} (h : l.length = 1) : GrowP (buildT (f + 1) l) l := by
  obtain ⟨p, rfl⟩ := List.length_eq_one_iff.1 h
  have e : flatT (buildT (f + 1) [p]) = [leafB ⟨1, p.1, p.2, noRefs 16⟩] := by
    show flatT (.mk (nodeB (nodeF (buildT f) [p])) (belowF (buildT f) [p])) = _
    have h1 : nodeF (buildT f) [p] = ⟨1, p.1, p.2, noRefs 16⟩ := rfl
    have h2 : belowF (buildT f) [p] = [] := rfl
    rw [h1, h2]; rfl
  refine ⟨by rw [e]; simp, fun h2 => by simp at h2, fun q hq => ?_⟩
  rw [List.mem_singleton] at hq; subst hq
  rw [e]
  refine ⟨_, List.mem_singleton.2 rfl, (inf_text q.2).trans ?_⟩
  unfold leafB; exact inf_list (by simp)
theorem grow : ∀ (f : Nat) (l : List Pair), RowsOk f l → l ≠ [] → GrowP (buildT (f + 1) l) l := by
  intro f
  induction f with
  | zero =>
    intro l h hn
    have h0 : l.length ≠ 0 := fun e => hn (List.eq_nil_of_length_eq_zero e)
    have hl : l.length ≤ 1 := by
      rcases Nat.lt_or_ge l.length 2 with h2 | h2
      · omega
      · obtain ⟨a, ha⟩ : ∃ a, l[0]? = some a := ⟨_, List.getElem?_eq_getElem (by omega)⟩
        obtain ⟨b, hb⟩ : ∃ b, l[1]? = some b := ⟨_, List.getElem?_eq_getElem (by omega)⟩
        have hlt := pair_get h.rise (by omega) ha hb
        have := (h.size b (List.mem_of_getElem? hb)).1
        rw [show b.l = [] from List.eq_nil_of_length_eq_zero (by show b.1.size = 0; omega)] at hlt
        exact absurd hlt (not_lt_nil _)
    exact grow_one 0 (by omega)
  | succ f ih =>
    intro l h hn
    have h0 : l.length ≠ 0 := fun e => hn (List.eq_nil_of_length_eq_zero e)
    by_cases h1 : l.length = 1
    · exact grow_one (f + 1) h1
    have h2 : 2 ≤ l.length := by omega
    have hcom := com_all h h2
    have eT : flatT (buildT (f + 1 + 1) l) = nodeB (nodeF (buildT (f + 1)) l) :: flatTs (belowF (buildT (f + 1)) l) := by
      show flatT (.mk (nodeB (nodeF (buildT (f + 1)) l)) (belowF (buildT (f + 1)) l)) = _
      rw [flatT]
    by_cases hk : 0 < comK l
    · have hok : RowsOk f (dropL (comK l) l) := (dropL_ok (comK l) h (fun p hp q hq => (hcom p hp).1.trans (hcom q hq).1.symm) (fun p hp => (hcom p hp).2)).mono (by omega)
      have hne : dropL (comK l) l ≠ [] := fun e => by have := dropL_len (comK l) l; rw [e] at this; simp at this; omega
      have hg := ih _ hok hne
      obtain ⟨_, i2, _⟩ := good f _ hok
      have hst := i2 hne
      have eB : belowF (buildT (f + 1)) l = heldK (buildT (f + 1) (dropL (comK l) l)) := by
        unfold belowF; rw [if_neg (by omega), if_pos hk]
      have eN : nodeF (buildT (f + 1)) l = ⟨2, (l.getD 0 pd).1.extract 0 (comK l), ⟨#[]⟩, refB (buildT (f + 1) (dropL (comK l) l)).text :: noRefs 15⟩ := by unfold nodeF; rw [if_neg h0, if_neg h1, if_pos hk]
      have hlen := hg.two (by rw [dropL_len]; omega) (comK_drop (by omega))
      rw [dropL_len] at hlen
      have hh := held_le (buildT (f + 1) (dropL (comK l) l))
      refine ⟨by rw [eT, eB, List.length_cons]; omega, fun _ hz => by omega, fun p hp => ?_⟩
      obtain ⟨q, hq, e2⟩ := drop_mem (k := comK l) hp
      obtain ⟨t, ht, hv⟩ := hg.inf q hq
      rw [e2] at hv
      rw [eT, eB]
      rcases hst.inf ht hv with ⟨t', ht', hv'⟩ | hv'
      · exact ⟨t', List.mem_cons_of_mem _ ht', hv'⟩
      · refine ⟨_, List.mem_cons_self, hv'.trans ?_⟩
        have : nodeB (nodeF (buildT (f + 1)) l) = extB (nodeF (buildT (f + 1)) l) := by rw [eN]; rfl
        rw [this, eN]; unfold extB; exact inf_list (by simp)
    · have hkid : ∀ i, (cutL i l).length ≠ 0 → dropL 1 (cutL i l) ≠ [] := fun i hi e => by have := dropL_len 1 (cutL i l); rw [e] at this; simp at this; omega
      have hg : ∀ i, (cutL i l).length ≠ 0 → GrowP (buildT (f + 1) (dropL 1 (cutL i l))) (dropL 1 (cutL i l)) := fun i hi => ih _ (sub_ok i h) (hkid i hi)
      have hst : ∀ i, (cutL i l).length ≠ 0 → Stands f (buildT (f + 1) (dropL 1 (cutL i l))) (nodeF (buildT f) (dropL 1 (cutL i l))) := fun i hi => (good f _ (sub_ok i h)).2.1 (hkid i hi)
      have eB : belowF (buildT (f + 1)) l = ksK (buildT (f + 1)) l 16 := by
        unfold belowF; rw [if_neg (by omega), if_neg hk]; rfl
      obtain ⟨a, ha⟩ : ∃ a, l[0]? = some a := ⟨_, List.getElem?_eq_getElem (by omega)⟩
      obtain ⟨b, hb⟩ : ∃ b, l[l.length - 1]? = some b := ⟨_, List.getElem?_eq_getElem (by omega)⟩
      have ga : l.getD 0 pd = a := by rw [List.getD_eq_getElem?_getD, ha]; rfl
      have gb : l.getD (l.length - 1) pd = b := by rw [List.getD_eq_getElem?_getD, hb]; rfl
      have ham := List.mem_of_getElem? ha
      have hbm := List.mem_of_getElem? hb
      have hlt := pair_get h.rise (by omega) ha hb
      obtain ⟨rs, hrs⟩ : ∃ rs, rs = (List.range 16).map fun i => if (cutL i l).length = 0 then (⟨#[]⟩ : ByteArray) else refB (buildT (f + 1) (dropL 1 (cutL i l))).text := ⟨_, rfl⟩
      have eN : nodeF (buildT (f + 1)) l = ⟨3, ⟨#[]⟩, if a.1.size = 0 then a.2 else ⟨#[]⟩, rs⟩ := by unfold nodeF; rw [if_neg h0, if_neg h1, if_neg hk, ga, hrs]
      have hlen : (flatTs (belowF (buildT (f + 1)) l)).length + 4 ≤ 3 * l.length := by
        rw [eB]
        have hks := ks_grow (buildT (f + 1)) l (fun i hi => by have := (hg i hi).all; rwa [dropL_len] at this) 16
        have hkc : common a.l b.l = 0 := by have : comK l = common a.l b.l := by unfold comK commonN; rw [ga, gb]
                                            omega
        cases hbl : b.l with
        | nil => rw [hbl] at hlt; exact absurd hlt (not_lt_nil _)
        | cons y t =>
          have hy := nib_lt (h.size b hbm).2.2.1 hbl
          have cb := cut_len hbm hbl
          cases hal : a.l with
          | nil =>
            have := cutSum_lt ⟨a, ham, hal⟩ 16
            have := parts_one cb hy
            omega
          | cons x r =>
            have hx := nib_lt (h.size a ham).2.2.1 hal
            have ca := cut_len ham hal
            have hxy : x ≠ y := by
              intro e
              rw [hal, hbl, e] at hkc
              simp [common] at hkc
            have hne : x.toNat ≠ y.toNat := fun e => hxy (UInt8.toNat_inj.1 e)
            have := cutSum_le l 16
            have : 2 ≤ partsN l 16 := by
              rcases Nat.lt_or_ge x.toNat y.toNat with e | e
              · exact parts_two ca cb e hy
              · exact parts_two cb ca (by omega) hx
            omega
      refine ⟨by rw [eT, List.length_cons]; omega, fun _ _ => by rw [eT, List.length_cons]; omega, fun p hp => ?_⟩
      have hnb : nodeB (nodeF (buildT (f + 1)) l) = branchB (nodeF (buildT (f + 1)) l) := by rw [eN]; rfl
      have hbx : branchL (nodeF (buildT (f + 1)) l) = branchX rs (if a.1.size = 0 then a.2 else ⟨#[]⟩) := by
        rw [branchL_eq _ (by rw [eN, hrs]; simp), eN]
      cases hpl : p.l with
      | nil =>
        have hpa : p = a := by
          obtain ⟨i, hi⟩ := List.getElem?_of_mem hp
          by_cases h00 : i = 0
          · subst h00; rw [ha] at hi; exact (Option.some.inj hi).symm
          · have := pair_get h.rise (by omega) ha hi
            rw [hpl] at this; exact absurd this (not_lt_nil _)
        subst hpa
        have hz : p.1.size = 0 := by show p.1.data.toList.length = 0; rw [show p.1.data.toList = [] from hpl]; rfl
        rw [eT]
        refine ⟨_, List.mem_cons_self, (inf_text p.2).trans ?_⟩
        rw [hnb]; unfold branchB
        rw [hbx, if_pos hz]
        refine inf_list ?_
        unfold branchX; simp
      | cons x r =>
        have hx := nib_lt (h.size p hp).2.2.1 hpl
        have hc := cut_len hp hpl
        obtain ⟨q, hq, e2⟩ := drop_mem (k := 1) (cut_in hp hpl)
        obtain ⟨t, ht, hv⟩ := (hg _ hc).inf q hq
        rw [e2] at hv
        rw [eT, eB]
        rcases (hst _ hc).inf ht hv with ⟨t', ht', hv'⟩ | hv'
        · refine ⟨t', List.mem_cons_of_mem _ ?_, hv'⟩
          obtain ⟨T', hT', hm'⟩ := flatTs_mem.1 ht'
          refine flatTs_mem.2 ⟨T', ?_, hm'⟩
          unfold ksK
          refine List.mem_flatMap.2 ⟨x.toNat, List.mem_range.2 hx, ?_⟩
          rw [if_neg hc]; exact hT'
        · refine ⟨_, List.mem_cons_self, hv'.trans ?_⟩
          rw [hnb]; unfold branchB
          rw [hbx]
          refine inf_list ?_
          unfold branchX
          refine List.mem_append.2 (.inl ?_)
          have hrm : refB (buildT (f + 1) (dropL 1 (cutL x.toNat l))).text ∈ rs := by
            rw [hrs]
            refine List.mem_map.2 ⟨x.toNat, List.mem_range.2 hx, ?_⟩
            rw [if_neg hc]
          refine List.mem_map.2 ⟨_, hrm, ?_⟩
          rw [if_neg (hst _ hc).may.1.pos]
theorem trie_grows {l : List Pair} (h : checkN l = 0) : (firsts (flatT (trieT l))).length ≤ 1 + 3 * l.length ∧ ∀ p ∈ l, ∃ t ∈ firsts (flatT (trieT l)), Inf p.2 t := by
  by_cases h0 : l = []
  · subst h0
    refine ⟨?_, by simp⟩
    have := firsts_len (flatT (trieT []))
    have h1 := trie_len (check_ok h)
    simp at h1 ⊢; omega
  · have hr := rows_ok (check_ok h)
    have hne : rowsL l ≠ [] := fun e => h0 (by unfold rowsL at e; simpa using e)
    have hg := grow 12 (rowsL l) hr hne
    have h2 : (rowsL l).length = l.length := by unfold rowsL; rw [List.length_map]
    have h3 := hg.all
    rw [h2] at h3
    have h4 := firsts_len (flatT (trieT l))
    have h5 : trieT l = buildT (12 + 1) (rowsL l) := rfl
    rw [← h5] at h3
    refine ⟨by omega, fun p hp => ?_⟩
    obtain ⟨t, ht, hv⟩ := hg.inf _ (List.mem_map_of_mem hp)
    exact ⟨t, (firsts_mem _ _).2 ht, hv⟩
end
end Go.Proofs.YtolhikjjchfnjaaGreatDoor
