/- Parts of the proof, one behind the other: MapB. Each is under no condition but those that it states. -/
import Derived.Test.YtllbcjclibbogaaGreatDoorPa36
import Derived.Test.YtllbcjclibbogaaGreatDoorPa25
import Derived.Test.YtllbcjclibbogaaGreatDoorPa35
/- What makes one map of another one; plain. -/
namespace Go.Proofs.YtllbcjclibbogaaGreatDoor
section
open Go Go.RowKit
set_option linter.unusedSimpArgs false
set_option linter.unusedVariables false
abbrev Chg.k (c : Chg) : List UInt8 := c.key.data.toList
/-- What a change leaves. -/
def Chg.o (c : Chg) : Option ByteArray := if c.gone then none else some c.value
theorem lasts_none {k : List UInt8} : ∀ {cs : List Chg}, (∀ c ∈ cs, c.k ≠ k) → ∀ o, cs.foldl (lastC k) o = o
  | [], _, _ => rfl
  | c :: r, h, o => by
    have e : lastC k o c = o := by unfold lastC; rw [if_neg (fun e => h c List.mem_cons_self e.symm)]
    rw [List.foldl_cons, e, lasts_none fun x hx => h x (List.mem_cons_of_mem _ hx)]
theorem lasts_mem {c : Chg} : ∀ {cs : List Chg}, c ∈ cs → (cs.map Chg.k).Nodup → ∀ o, cs.foldl (lastC c.k) o = c.o
  | [], h, _, _ => by cases h
  | d :: r, h, hn, o => by
    rw [List.map_cons, List.nodup_cons] at hn
    rw [List.foldl_cons]
    rcases List.mem_cons.1 h with rfl | h
    · rw [lasts_none fun x hx e => hn.1 (by rw [← e]; exact List.mem_map_of_mem hx)]
      unfold lastC Chg.o; rw [if_pos rfl]
    · exact lasts_mem h hn.2 _
/-- Changes that make m of l. -/
structure Makes (l m : List Pair) (cs : List Chg) : Prop where
  keys : (cs.map Chg.k).Nodup
  done : ∀ c ∈ cs, look m c.k = c.o
  rest : ∀ k, (∀ c ∈ cs, c.k ≠ k) → look l k = look m k
  fine : cs.any Chg.bad = false
theorem Makes.looks {l m : List Pair} {cs : List Chg} (h : Makes l m cs) (k : List UInt8) : cs.foldl (lastC k) (look l k) = look m k := by
  by_cases hk : ∃ c ∈ cs, c.k = k
  · obtain ⟨c, hc, rfl⟩ := hk
    rw [lasts_mem hc h.keys, h.done c hc]
  · have hn : ∀ c ∈ cs, c.k ≠ k := fun c hc e => hk ⟨c, hc, e⟩
    rw [lasts_none hn, h.rest k hn]
theorem Makes.perm {l m : List Pair} {cs ds : List Chg} (h : Makes l m cs) (p : ds.Perm cs) : Makes l m ds :=
  ⟨(p.map Chg.k).nodup_iff.2 h.keys, fun c hc => h.done c (p.mem_iff.1 hc), fun k hk => h.rest k fun c hc => hk c (p.mem_iff.2 hc), by
    rw [Bool.eq_false_iff]; intro hh
    obtain ⟨c, hc, hb⟩ := List.any_eq_true.1 hh
    have : cs.any Chg.bad = true := List.any_eq_true.2 ⟨c, p.mem_iff.1 hc, hb⟩
    rw [h.fine] at this; cases this⟩
theorem Makes.after {l m : List Pair} {cs : List Chg} (h : Makes l m cs) (h1 : checkN l = 0) (h2 : checkN m = 0) : applyE l cs = 0 ∧ sortM (applyM l cs) = m := by
  have he : sortM (applyM l cs) = m := by
    refine rises_ext (sortM_rises (apply_nodup _ _)) (check_ok h2).rise fun k => ?_
    rw [look_after h1, h.looks]
  refine ⟨?_, he⟩
  have hl := congrArg List.length he
  rw [sortM_len] at hl
  have := (check_ok h2).len
  unfold applyE
  rw [if_neg (by rw [h1]; simp), if_neg (by rw [h.fine]; simp), if_neg (by omega)]
def okL (l : List Pair) : Prop := (∀ p ∈ l, okP p) ∧ Rises l
theorem okL.tail {p : Pair} {l : List Pair} (h : okL (p :: l)) : okL l := ⟨fun q hq => h.1 q (List.mem_cons_of_mem _ hq), (List.pairwise_cons.1 h.2).2⟩
theorem okL.head {p : Pair} {l : List Pair} (h : okL (p :: l)) : okP p := h.1 p List.mem_cons_self
theorem okL.lt {p : Pair} {l : List Pair} (h : okL (p :: l)) : ∀ q ∈ l, Lt p.k q.k := (List.pairwise_cons.1 h.2).1
/-- One change ahead of those that make the rest. -/
theorem Makes.cons {l m l' m' : List Pair} {c : Chg} {cs : List Chg} (h : Makes l m cs) (hk : ∀ d ∈ cs, Lt c.k d.k) (hc : look m' c.k = c.o) (hb : c.bad = false)
    (hl : ∀ k, k ≠ c.k → look l' k = look l k) (hm : ∀ k, k ≠ c.k → look m' k = look m k) : Makes l' m' (c :: cs) := by
  refine ⟨?_, ?_, ?_, ?_⟩
  · rw [List.map_cons, List.nodup_cons]
    refine ⟨fun hh => ?_, h.keys⟩
    obtain ⟨d, hd, e⟩ := List.mem_map.1 hh
    exact lt_irrefl _ (e ▸ hk d hd)
  · intro d hd
    rcases List.mem_cons.1 hd with rfl | hd
    · exact hc
    · rw [hm _ (fun e => lt_irrefl _ (e ▸ hk d hd)), h.done d hd]
  · intro k hh
    have h1 : k ≠ c.k := fun e => hh c List.mem_cons_self e.symm
    rw [hl k h1, hm k h1, h.rest k fun d hd => hh d (List.mem_cons_of_mem _ hd)]
  · rw [List.any_cons, hb, h.fine]; rfl
end
end Go.Proofs.YtllbcjclibbogaaGreatDoor
