/- Parts of the proof, one behind the other: MapA. Each is under no condition but those that it states. -/
import Derived.Test.YtllbcjclibbogaaGreatDoorPa35
import Derived.Test.YtllbcjclibbogaaGreatDoorPa26
/- Maps as lists of entries: what a key has, changes, order; plain. -/
namespace Go.Proofs.YtllbcjclibbogaaGreatDoor
section
open Go Go.RowKit
set_option linter.unusedSimpArgs false
set_option linter.unusedVariables false
theorem valM_look (m : List Pair) (k : List UInt8) : valM m k = (look m k).getD ⟨#[]⟩ := rfl
theorem look_put (p : Pair) (k : List UInt8) : ∀ m : List Pair, look (putM m p) k = if k = p.k then some p.2 else look m k
  | [] => by rw [putM, look_cons, look_nil]
  | q :: r => by
    rw [putM]
    by_cases h : p.k = q.k
    · rw [if_pos h, look_cons, look_cons]
      by_cases h2 : k = p.k
      · rw [if_pos h2, if_pos h2]
      · rw [if_neg h2, if_neg h2, if_neg (by rw [← h]; exact h2)]
    · rw [if_neg h, look_cons, look_cons, look_put p k r]
      by_cases h2 : k = q.k
      · rw [if_pos h2, if_pos h2, if_neg (by rw [h2]; exact fun e => h e.symm)]
      · rw [if_neg h2, if_neg h2]
theorem look_some {k : List UInt8} : ∀ {m : List Pair}, k ∈ m.map Pair.k → ∃ v, look m k = some v
  | [], h => by cases h
  | q :: r, h => by
    rw [look_cons]
    by_cases e : k = q.k
    · exact ⟨_, if_pos e⟩
    · rw [if_neg e]
      rcases List.mem_cons.1 h with h | h
      · exact absurd h e
      · exact look_some h
theorem look_mem {k : List UInt8} {v : ByteArray} : ∀ {m : List Pair}, look m k = some v → ∃ p ∈ m, p.k = k ∧ p.2 = v
  | [], h => by cases h
  | q :: r, h => by
    rw [look_cons] at h
    by_cases e : k = q.k
    · rw [if_pos e] at h
      exact ⟨q, List.mem_cons_self, e.symm, Option.some.inj h⟩
    · rw [if_neg e] at h
      obtain ⟨p, hp, h1⟩ := look_mem h
      exact ⟨p, List.mem_cons_of_mem _ hp, h1⟩
theorem del_keys (k : ByteArray) : ∀ m : List Pair, (delM m k).map Pair.k = (m.map Pair.k).erase k.data.toList
  | [] => rfl
  | q :: r => by
    rw [delM, List.map_cons, List.erase_cons]
    by_cases h : k.data.toList = q.k
    · rw [if_pos h, if_pos (by simp [h])]
    · rw [if_neg h, if_neg (by intro e; exact h (by simpa using (eq_of_beq e).symm)), List.map_cons, del_keys k r]
theorem look_del (key : ByteArray) (k : List UInt8) : ∀ m : List Pair, (m.map Pair.k).Nodup → look (delM m key) k = if k = key.data.toList then none else look m k
  | [], _ => by rw [delM, look_nil]; simp
  | q :: r, hn => by
    rw [List.map_cons, List.nodup_cons] at hn
    rw [delM]
    by_cases h : key.data.toList = q.k
    · rw [if_pos h, look_cons]
      by_cases h2 : k = key.data.toList
      · rw [if_pos h2]; exact look_none (by rw [h2, h]; exact hn.1)
      · rw [if_neg h2, if_neg (by rw [← h]; exact h2)]
    · rw [if_neg h, look_cons, look_cons, look_del key k r hn.2]
      by_cases h2 : k = q.k
      · rw [if_pos h2, if_pos h2, if_neg (by rw [h2]; exact fun e => h e.symm)]
      · rw [if_neg h2, if_neg h2]
theorem put_keysM (p : Pair) : ∀ m : List Pair, (putM m p).map Pair.k = if p.k ∈ m.map Pair.k then m.map Pair.k else m.map Pair.k ++ [p.k]
  | [] => rfl
  | q :: r => by
    rw [putM]
    by_cases h : p.k = q.k
    · rw [if_pos h, if_pos (by simp [h])]; simp [h]
    · rw [if_neg h, List.map_cons, put_keysM p r]
      by_cases h2 : p.k ∈ r.map Pair.k
      · rw [if_pos h2, if_pos (by rw [List.map_cons]; exact List.mem_cons_of_mem _ h2)]; rfl
      · rw [if_neg h2, if_neg (by rw [List.map_cons, List.mem_cons]; exact fun e => e.elim h h2)]; rfl
theorem put_nodup (p : Pair) {m : List Pair} (h : (m.map Pair.k).Nodup) : ((putM m p).map Pair.k).Nodup := by
  rw [put_keysM]
  split
  · exact h
  · rename_i hn
    rw [List.nodup_append]
    exact ⟨h, by simp, fun a ha b hb e => by simp at hb; subst hb; subst e; exact hn ha⟩
theorem del_nodup (k : ByteArray) {m : List Pair} (h : (m.map Pair.k).Nodup) : ((delM m k).map Pair.k).Nodup := by
  rw [del_keys]; exact h.erase _
theorem do_nodup (c : Chg) {m : List Pair} (h : (m.map Pair.k).Nodup) : ((doM m c).map Pair.k).Nodup := by
  unfold doM; split
  · exact del_nodup _ h
  · exact put_nodup _ h
theorem dos_nodup : ∀ (cs : List Chg) {m : List Pair}, (m.map Pair.k).Nodup → ((cs.foldl doM m).map Pair.k).Nodup
  | [], _, h => h
  | c :: r, _, h => dos_nodup r (do_nodup c h)
theorem puts_nodup : ∀ (l : List Pair) {m : List Pair}, (m.map Pair.k).Nodup → ((l.foldl putM m).map Pair.k).Nodup
  | [], _, h => h
  | c :: r, _, h => puts_nodup r (put_nodup c h)
theorem apply_nodup (l : List Pair) (cs : List Chg) : ((applyM l cs).map Pair.k).Nodup := dos_nodup cs (puts_nodup l (by simp))
/-- What a key has behind a change. -/
def lastC (k : List UInt8) (o : Option ByteArray) (c : Chg) : Option ByteArray := if k = c.key.data.toList then (if c.gone then none else some c.value) else o
theorem look_do (c : Chg) (k : List UInt8) {m : List Pair} (h : (m.map Pair.k).Nodup) : look (doM m c) k = lastC k (look m k) c := by
  unfold doM lastC
  cases hg : c.gone with
  | true => rw [if_pos rfl, look_del _ _ _ h]; simp
  | false => rw [if_neg (by simp), look_put]; simp [Pair.k]
theorem look_dos (k : List UInt8) : ∀ (cs : List Chg) {m : List Pair}, (m.map Pair.k).Nodup → look (cs.foldl doM m) k = cs.foldl (lastC k) (look m k)
  | [], _, _ => rfl
  | c :: r, m, h => by rw [List.foldl_cons, List.foldl_cons, look_dos k r (do_nodup c h), look_do c k h]
theorem look_puts (k : List UInt8) : ∀ (l : List Pair) (m : List Pair), (l.map Pair.k).Nodup → look (l.foldl putM m) k = (look l k).or (look m k)
  | [], _, _ => by rw [look_nil]; simp
  | q :: r, m, h => by
    rw [List.map_cons, List.nodup_cons] at h
    rw [List.foldl_cons, look_puts k r _ h.2, look_put, look_cons]
    by_cases e : k = q.k
    · rw [if_pos e, if_pos e, look_none (by rw [e]; exact h.1)]; rfl
    · rw [if_neg e, if_neg e]
theorem look_apply (k : List UInt8) (l : List Pair) (cs : List Chg) (h : (l.map Pair.k).Nodup) : look (applyM l cs) k = cs.foldl (lastC k) (look l k) := by
  unfold applyM
  rw [look_dos k cs (puts_nodup l (by simp)), look_puts k l [] h, look_nil]; simp
theorem lt_list : ∀ (a b : List UInt8), Lt a b ↔ a < b
  | a, [] => ⟨fun h => absurd h (not_lt_nil _), fun h => absurd h (List.not_lt_nil _)⟩
  | [], b :: y => ⟨fun _ => List.nil_lt_cons _ _, fun _ => nil_lt⟩
  | a :: x, b :: y => by rw [lt_cons, List.cons_lt_cons_iff, lt_list x y]
theorem Rises.nodup {l : List Pair} (h : Rises l) : (l.map Pair.k).Nodup := by
  unfold List.Nodup
  rw [List.pairwise_map]
  refine h.imp fun {p q} h => ?_
  intro e
  rw [e] at h
  exact lt_irrefl _ h
theorem sortS_memA (ks : List (List UInt8)) (k : List UInt8) : k ∈ sortS ks ↔ k ∈ ks := (List.mergeSort_perm _ _).mem_iff
theorem sortS_rises {ks : List (List UInt8)} (h : ks.Nodup) : (sortS ks).Pairwise Lt := by
  have tr : ∀ a b c : List UInt8, decide (a ≤ b) = true → decide (b ≤ c) = true → decide (a ≤ c) = true := fun a b c h1 h2 => by simp only [decide_eq_true_eq] at *; exact List.le_trans h1 h2
  have to : ∀ a b : List UInt8, (decide (a ≤ b) || decide (b ≤ a)) = true := fun a b => by simp only [Bool.or_eq_true, decide_eq_true_eq]; exact List.le_total a b
  have h1 : (sortS ks).Pairwise (fun x y => decide (x ≤ y) = true) := List.pairwise_mergeSort tr to ks
  have h2 : (sortS ks).Nodup := (List.mergeSort_perm _ _).nodup_iff.2 h
  refine (h1.and h2).imp fun {a b} h => ?_
  have h3 : a ≤ b := by simpa using h.1
  rcases lt_tri a b with e | e | e
  · exact e
  · exact absurd e h.2
  · exact absurd ((lt_list _ _).1 e) (List.not_lt.2 h3)
theorem sortM_keys (m : List Pair) : (sortM m).map Pair.k = sortS (m.map Pair.k) := by
  unfold sortM
  rw [List.map_map]
  conv => rhs; rw [← List.map_id (sortS (m.map Pair.k))]
  exact List.map_congr_left fun k _ => rfl
theorem sortM_len (m : List Pair) : (sortM m).length = m.length := by
  unfold sortM; rw [List.length_map, sortS_len, List.length_map]
theorem sortM_rises {m : List Pair} (h : (m.map Pair.k).Nodup) : Rises (sortM m) := by
  have h1 := sortS_rises h
  rw [← sortM_keys, List.pairwise_map] at h1
  exact h1
theorem look_keys (f : List UInt8 → ByteArray) (k : List UInt8) : ∀ ks : List (List UInt8), look (ks.map fun x => ((⟨x.toArray⟩, f x) : Pair)) k = if k ∈ ks then some (f k) else none
  | [] => rfl
  | x :: r => by
    rw [List.map_cons, look_cons, look_keys f k r]
    have e : Pair.k ((⟨x.toArray⟩, f x) : Pair) = x := rfl
    rw [e]
    by_cases h : k = x
    · rw [if_pos h, if_pos (by simp [h])]; simp [h]
    · rw [if_neg h]
      by_cases h2 : k ∈ r
      · rw [if_pos h2, if_pos (List.mem_cons_of_mem _ h2)]
      · rw [if_neg h2, if_neg (by rw [List.mem_cons]; exact fun e => e.elim h h2)]
theorem look_sort (m : List Pair) (k : List UInt8) : look (sortM m) k = look m k := by
  unfold sortM
  rw [look_keys]
  by_cases h : k ∈ m.map Pair.k
  · rw [if_pos ((sortS_memA _ _).2 h)]
    obtain ⟨v, hv⟩ := look_some h
    rw [valM_look, hv]; rfl
  · rw [if_neg (fun e => h ((sortS_memA _ _).1 e)), look_none h]
/-! Changes that are done. -/
def okP (p : Pair) : Prop := keyedB p.1 = true ∧ valuedB p.2 = true
theorem put_mem {p x : Pair} : ∀ {m : List Pair}, x ∈ putM m p → x = p ∨ x ∈ m
  | [], h => .inl (by simpa [putM] using h)
  | q :: r, h => by
    rw [putM] at h
    split at h
    · rcases List.mem_cons.1 h with h | h
      · exact .inl h
      · exact .inr (List.mem_cons_of_mem _ h)
    · rcases List.mem_cons.1 h with h | h
      · exact .inr (h ▸ List.mem_cons_self)
      · exact (put_mem h).imp id (List.mem_cons_of_mem _)
theorem delM_sub (k : ByteArray) : ∀ m : List Pair, (delM m k).Sublist m
  | [] => List.Sublist.refl _
  | x :: r => by
    unfold delM
    split
    · exact List.sublist_cons_self _ _
    · exact (delM_sub k r).cons_cons _
theorem puts_ok : ∀ (l : List Pair) {m : List Pair}, (∀ p ∈ l, okP p) → (∀ p ∈ m, okP p) → ∀ p ∈ l.foldl putM m, okP p
  | [], _, _, h => h
  | q :: r, m, h1, h2 => puts_ok r (fun p hp => h1 p (List.mem_cons_of_mem _ hp)) fun p hp => (put_mem hp).elim (fun e => e ▸ h1 q List.mem_cons_self) (h2 p)
theorem dos_ok : ∀ (cs : List Chg) {m : List Pair}, cs.any Chg.bad = false → (∀ p ∈ m, okP p) → ∀ p ∈ cs.foldl doM m, okP p
  | [], _, _, h => h
  | c :: r, m, h1, h2 => by
    rw [List.any_cons, Bool.or_eq_false_iff] at h1
    refine dos_ok r h1.2 fun p hp => ?_
    unfold doM at hp
    have hb := h1.1
    unfold Chg.bad at hb
    cases hg : c.gone with
    | true => rw [if_pos hg] at hp; exact h2 p ((delM_sub _ _).subset hp)
    | false =>
      rw [if_neg (by rw [hg]; simp)] at hp
      rcases put_mem hp with rfl | hp
      · simp [hg] at hb; exact hb
      · exact h2 p hp
theorem map_okP {l : List Pair} (h : checkN l = 0) : ∀ p ∈ l, okP p := fun p hp => by
  obtain ⟨h1, h2, h3, h4⟩ := (check_ok h).size p hp
  exact ⟨decide_eq_true ⟨h1, h2⟩, decide_eq_true ⟨h3, h4⟩⟩
theorem apply_okP {l : List Pair} {cs : List Chg} (h : checkN l = 0) (hc : cs.any Chg.bad = false) : ∀ p ∈ applyM l cs, okP p :=
  dos_ok cs hc (puts_ok l (map_okP h) (by simp))
theorem ok_check {l : List Pair} (h1 : ∀ p ∈ l, okP p) (h2 : Rises l) (h3 : l.length ≤ 40) : checkN l = 0 := by
  unfold checkN
  rw [if_neg, if_neg (by omega)]
  intro h
  obtain ⟨i, hi, hb⟩ := List.any_eq_true.1 h
  have hi := List.mem_range.1 hi
  have g : ∀ j (hj : j < l.length), l.getD j (⟨#[]⟩, ⟨#[]⟩) = l[j] := fun j hj => by rw [List.getD_eq_getElem?_getD, List.getElem?_eq_getElem hj]; rfl
  unfold badN at hb
  rw [g i hi, (h1 _ (List.getElem_mem hi)).1, (h1 _ (List.getElem_mem hi)).2] at hb
  simp only [Bool.not_true, Bool.or_self, Bool.false_or, Bool.and_eq_true, decide_eq_true_eq, Bool.not_eq_true'] at hb
  rw [g (i - 1) (by omega)] at hb
  have := List.pairwise_iff_getElem.1 h2 (i - 1) i (by omega) hi (by omega)
  have h4 := hb.2
  unfold lessB at h4
  rw [ByteArray.toList_eq, ByteArray.toList_eq] at h4
  have h5 : Op.bytesLess (l[i - 1]).1.data.toList (l[i]).1.data.toList = true := this
  rw [h5] at h4; cases h4
theorem apply_parts {l : List Pair} {cs : List Chg} (h : applyE l cs = 0) : checkN l = 0 ∧ cs.any Chg.bad = false ∧ (applyM l cs).length ≤ 40 := by
  unfold applyE at h
  split at h
  · rename_i h1; exact absurd h h1
  rename_i h1
  split at h
  · cases h
  rename_i h2
  split at h
  · cases h
  rename_i h3
  exact ⟨by simpa using h1, by simpa using h2, by omega⟩
theorem after_okP {m : List Pair} (h : ∀ p ∈ m, okP p) : ∀ p ∈ sortM m, okP p := fun p hp => by
  obtain ⟨k, hk, rfl⟩ := List.mem_map.1 hp
  obtain ⟨v, hv⟩ := look_some ((sortS_memA _ _).1 hk)
  obtain ⟨q, hq, e1, e2⟩ := look_mem hv
  have := h q hq
  rw [valM_look, hv]
  have e : ((⟨k.toArray⟩, (some v).getD ⟨#[]⟩) : Pair) = q := pair_ext e1.symm e2.symm
  rw [e]; exact this
theorem after_check {l : List Pair} {cs : List Chg} (h : applyE l cs = 0) : checkN (sortM (applyM l cs)) = 0 := by
  obtain ⟨h1, h2, h3⟩ := apply_parts h
  exact ok_check (after_okP (apply_okP h1 h2)) (sortM_rises (apply_nodup l cs)) (by rw [sortM_len]; exact h3)
theorem look_after {l : List Pair} (h : checkN l = 0) (cs : List Chg) (k : List UInt8) : look (sortM (applyM l cs)) k = cs.foldl (lastC k) (look l k) := by
  rw [look_sort, look_apply k l cs (Rises.nodup (check_ok h).rise)]
theorem findB_look (k : ByteArray) : ∀ l : List Pair, findB l k = look l k.data.toList
  | [] => rfl
  | q :: r => by
    have ih := findB_look k r
    unfold findB keyAt at *
    rw [look_cons, List.findIdx?_cons]
    by_cases h : k.data.toList = q.k
    · have : (q.1.toList == k.toList) = true := by rw [ByteArray.toList_eq, ByteArray.toList_eq]; simpa using h.symm
      rw [if_pos h, this]; rfl
    · have : (q.1.toList == k.toList) = false := by
        rw [ByteArray.toList_eq, ByteArray.toList_eq, Bool.eq_false_iff]
        intro e
        exact h (eq_of_beq e).symm
      rw [if_neg h, this, ← ih]
      cases List.findIdx? (fun p => p.1.toList == k.toList) r <;> rfl
end
end Go.Proofs.YtllbcjclibbogaaGreatDoor
