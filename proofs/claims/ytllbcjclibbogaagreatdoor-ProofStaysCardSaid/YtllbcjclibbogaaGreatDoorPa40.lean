/- Parts of the proof, one behind the other: CanonZ, CanonZa. Each is under no condition but those that it states. -/
import Derived.Test.YtllbcjclibbogaaGreatDoorPa35
/- canon: the laws' fixed facts. -/
namespace Go.Proofs.YtllbcjclibbogaaGreatDoor
section
open Go Go.RowKit
set_option linter.unusedSimpArgs false
set_option linter.unusedVariables false
end
end Go.Proofs.YtllbcjclibbogaaGreatDoor
/- canon: works, first half. -/
namespace Go.Proofs.YtllbcjclibbogaaGreatDoor
section
open Go Go.RowKit
set_option linter.unusedSimpArgs false
set_option linter.unusedVariables false
theorem cellsC_get : ∀ (xs : List Chg) (j : Nat) (p : Chg), xs[j]? = some p → (cellsC xs)[j * 3]? = some (.string p.key) ∧ (cellsC xs)[j * 3 + 1]? = some (.string p.value) ∧ (cellsC xs)[j * 3 + 2]? = some (.bool p.gone)
  | [], j, p, h => by simp at h
  | x :: r, 0, p, h => by simp at h; subst h; exact ⟨rfl, rfl, rfl⟩
  | x :: r, j + 1, p, h => by
    obtain ⟨h1, h2, h3⟩ := cellsC_get r j p (by simpa using h)
    rw [show (j + 1) * 3 = j * 3 + 3 by omega]
    exact ⟨h1, h2, h3⟩
theorem CRow.rd {w0 w : World} {v : Value} {n : Nat} {xs : List Chg} (h : CRow w0 w v n xs) : RdC w v xs := by
  have hl : xs.length = n := by have := h.len; rw [cellsC_len] at this; omega
  obtain ⟨_, ⟨rfl, h2⟩ | ⟨g, cap, cur, rfl, h3, h4, h5, h6, h7⟩⟩ := h.own
  · exact .inl ⟨none, 0, rfl, List.eq_nil_of_length_eq_zero (by omega)⟩
  · subst hl
    refine .inr ⟨g, 0, cap, rfl, (Array.getElem?_eq_some_iff.1 h4).1, h5, fun j x hx => ?_⟩
    have hj := (List.getElem?_eq_some_iff.1 hx).1
    obtain ⟨e1, e2, e3⟩ := cellsC_get xs j x hx
    exact ⟨by rw [Nat.zero_add, h.own.cellAt (j * 3) (by omega), e1], by rw [Nat.zero_add, h.own.cellAt (j * 3 + 1) (by omega), e2], by rw [Nat.zero_add, h.own.cellAt (j * 3 + 2) (by omega), e3]⟩
end
end Go.Proofs.YtllbcjclibbogaaGreatDoor
