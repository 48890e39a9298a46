/- Parts of the proof, one behind the other: RlpZd. Each is under no condition but those that it states. -/
import Derived.Test.YtjogjmffkmfmbaaGreatDoorPc16
import Derived.Test.YtjogjmffkmfmbaaGreatDoorPc18
/- rlp, plain: what cut tells of a text it tells of the item alone, too; any text as items, and what is behind them. -/
namespace Go.Proofs.YtjogjmffkmfmbaaGreatDoor
section
open Go Go.RowKit
set_option linter.unusedSimpArgs false
set_option linter.unusedVariables false
theorem lenB_pre {a : UInt8} {t t' : List UInt8} {to n : Nat} (h2 : 2 ≤ to) (h : lenB ⟨(a :: t).toArray⟩ to = some n) (hl : to ≤ t'.length + 1) (he : t'.take (to - 1) = t.take (to - 1)) : lenB ⟨(a :: t').toArray⟩ to = some n := by
  obtain ⟨h3, h4, h5, h6, h7⟩ := lenB_some h
  have e1 : ((⟨(a :: t').toArray⟩ : ByteArray).data.toList.take to).drop 1 = ((⟨(a :: t).toArray⟩ : ByteArray).data.toList.take to).drop 1 := by
    show ((a :: t').take to).drop 1 = ((a :: t).take to).drop 1
    obtain ⟨k, rfl⟩ : ∃ k, to = k + 1 := ⟨to - 1, by omega⟩
    rw [List.take_succ_cons, List.take_succ_cons, List.drop_succ_cons, List.drop_succ_cons]
    simpa using he
  have e2 : (⟨(a :: t').toArray⟩ : ByteArray).data.toList.getD 1 0 = (⟨(a :: t).toArray⟩ : ByteArray).data.toList.getD 1 0 := by
    show t'.getD 0 0 = t.getD 0 0
    have g : ∀ l : List UInt8, l.getD 0 0 = (l.take (to - 1)).getD 0 0 := fun l => by
      cases l with
      | nil => simp
      | cons x r =>
        obtain ⟨k, hk⟩ : ∃ k, to - 1 = k + 1 := ⟨to - 2, by omega⟩
        rw [hk]; rfl
    rw [g t', g t, he]
  unfold lenB
  rw [e1, e2, h5, if_neg, if_pos ⟨h6, h7⟩]
  rintro (hh | hh)
  · have : (⟨(a :: t').toArray⟩ : ByteArray).size = t'.length + 1 := rfl
    omega
  · exact h4 hh
set_option maxRecDepth 10000 in
theorem cut_pre (s y : ByteArray) (r : Bool × Nat × Nat) (h : cutN s = some r) : cutN (s.extract 0 (r.2.1 + r.2.2) ++ y) = some r := by
  obtain ⟨⟨l⟩⟩ := s
  cases l with
  | nil => exact absurd (cutN_pos h).1 (by decide)
  | cons a t =>
    obtain ⟨b, o, n⟩ := r
    have hpos := (cutN_pos h).2
    have hle := cutN_le h
    have hle : o + n ≤ t.length + 1 := hle
    have hpos : 0 < o + n := hpos
    have e0 : (ByteArray.extract ⟨⟨a :: t⟩⟩ 0 (o + n) ++ y) = ⟨(a :: (t.take (o + n - 1) ++ y.data.toList)).toArray⟩ := by
      apply ByteArray.ext; apply Array.ext'
      rw [ByteArray.data_append, Array.toList_append, ByteArray.data_extract, Array.toList_extract, List.extract_eq_take_drop]
      show ((a :: t).drop 0).take (o + n - 0) ++ _ = _
      obtain ⟨k, hk⟩ : ∃ k, o + n = k + 1 := ⟨o + n - 1, by omega⟩
      rw [hk]; rfl
    show cutN (ByteArray.extract ⟨⟨a :: t⟩⟩ 0 (o + n) ++ y) = _
    rw [e0]
    have h : cutN ⟨(a :: t).toArray⟩ = some (b, o, n) := h
    rw [cutN_cons] at h ⊢
    obtain ⟨m, hm⟩ : ∃ m, m = (if a.toNat < 192 then a.toNat - 128 else a.toNat - 192) := ⟨_, rfl⟩
    rw [← hm] at h ⊢
    have hmb : m ≤ 63 := by have := a.toNat_lt; rw [hm]; split <;> omega
    clear hm e0
    have hlen : (t.take (o + n - 1) ++ y.data.toList).length = (o + n - 1) + y.data.toList.length := by
      rw [List.length_append, List.length_take, Nat.min_eq_left (by omega)]
    by_cases h1 : a.toNat < 128
    · rw [if_pos h1] at h ⊢; exact h
    rw [if_neg h1] at h ⊢
    by_cases h2 : m ≤ 55
    · rw [if_pos h2] at h ⊢
      split at h
      · rename_i hc
        obtain ⟨rfl, e⟩ := Prod.mk.inj (Option.some.inj h)
        obtain ⟨rfl, rfl⟩ := Prod.mk.inj e
        rw [if_pos]
        refine ⟨by rw [hlen]; omega, hc.2.imp id fun hc => ?_⟩
        by_cases hm1 : m = 1
        · subst hm1
          refine .inr ?_
          have hc : 128 ≤ ((a :: t).getD 1 0).toNat := hc.resolve_left (fun h => h rfl)
          cases t with
          | nil => exact absurd (show 2 ≤ 1 from hle) (by decide)
          | cons x t => simpa using hc
        · exact .inl hm1
      · cases h
    · rw [if_neg h2] at h ⊢
      split at h
      · rename_i n' hl
        split at h
        · rename_i hc
          obtain ⟨rfl, e⟩ := Prod.mk.inj (Option.some.inj h)
          obtain ⟨rfl, rfl⟩ := Prod.mk.inj e
          rw [lenB_pre (by omega) hl (by rw [hlen]; omega) (by
            rw [List.take_append_of_le_length (by rw [List.length_take, Nat.min_eq_left (by omega)]; omega), List.take_take, Nat.min_eq_left (by omega)])]
          show (if _ then _ else _) = _
          rw [if_pos (by rw [hlen]; omega)]
        · cases h
      · cases h
theorem item_of {s : ByteArray} {r : Bool × Nat × Nat} (h : cutN s = some r) : IsItem (s.extract 0 (r.2.1 + r.2.2)) := fun y _ => ⟨r, cut_pre s y r h, by
  have := cutN_le h
  rw [ByteArray.size_extract]; omega⟩
theorem cut_parts (s : ByteArray) (k : Nat) : s.extract 0 k ++ s.extract k s.size = s := by
  apply ByteArray.ext; apply Array.ext'
  rw [ByteArray.data_append, Array.toList_append, ByteArray.data_extract, ByteArray.data_extract, Array.toList_extract, Array.toList_extract, List.extract_eq_take_drop, List.extract_eq_take_drop]
  show (s.data.toList.drop 0).take (k - 0) ++ (s.data.toList.drop k).take (s.size - k) = _
  rw [List.take_of_length_le (l := s.data.toList.drop k) (by rw [List.length_drop]; exact Nat.le_refl _)]
  exact List.take_append_drop k _
/-- Any text: items, and what is behind them. -/
theorem items_split : ∀ (f : Nat) (s : ByteArray), s.size ≤ f → ∃ xs z, (∀ x ∈ xs, IsItem x) ∧ s = catB xs ++ z ∧ (∀ x ∈ xs, x.size ≤ s.size) ∧ xs.length ≤ s.size ∧ (z = ⟨#[]⟩ ∨ (0 < z.size ∧ cutN z = none)) := by
  intro f
  induction f with
  | zero =>
    intro s hs
    have : s = ⟨#[]⟩ := ba_empty (by omega)
    subst this
    exact ⟨[], ⟨#[]⟩, (fun x hx => (List.not_mem_nil hx).elim), (by decide), (fun x hx => (List.not_mem_nil hx).elim), (by decide), .inl rfl⟩
  | succ f ih =>
    intro s hs
    by_cases h0 : s.size = 0
    · have : s = ⟨#[]⟩ := ba_empty h0
      subst this
      exact ⟨[], ⟨#[]⟩, (fun x hx => (List.not_mem_nil hx).elim), (by decide), (fun x hx => (List.not_mem_nil hx).elim), (by decide), .inl rfl⟩
    cases hc : cutN s with
    | none => exact ⟨[], s, (fun x hx => (List.not_mem_nil hx).elim), ByteArray.empty_append.symm, (fun x hx => (List.not_mem_nil hx).elim), Nat.zero_le _, .inr ⟨by omega, hc⟩⟩
    | some r =>
      have hp := (cutN_pos hc).2
      have hle := cutN_le hc
      have hd : (s.extract (r.2.1 + r.2.2) s.size).size = s.size - (r.2.1 + r.2.2) := by rw [ByteArray.size_extract]; omega
      obtain ⟨xs, z, h1, h2, h3, h4, h5⟩ := ih (s.extract (r.2.1 + r.2.2) s.size) (by omega)
      refine ⟨s.extract 0 (r.2.1 + r.2.2) :: xs, z, fun x hx => ?_, ?_, fun x hx => ?_, by rw [List.length_cons]; omega, h5⟩
      · rcases List.mem_cons.1 hx with rfl | hx
        · exact item_of hc
        · exact h1 x hx
      · rw [catB_eq, ByteArray.append_assoc, ← h2, cut_parts]
      · rcases List.mem_cons.1 hx with rfl | hx
        · rw [ByteArray.size_extract]; omega
        · have := h3 x hx; omega
end
end Go.Proofs.YtjogjmffkmfmbaaGreatDoor
