/- Parts of the proof, one behind the other: OpenAct. Each is under no condition but those that it states. -/
import Derived.Test.YtjogjmffkmfmbaaGreatDoorPc39
import Derived.Test.YtjogjmffkmfmbaaGreatDoorPc40
/- The arguments of law 06: rows of acts. -/
namespace Go.Proofs.YtjogjmffkmfmbaaGreatDoor
section
open Go Go.ChangeShapes Go.WideShapes Go.ChangeAt Go.RowKit Go.Deep
set_option linter.unusedSimpArgs false
set_option linter.unusedVariables false
theorem Tryz.cellsAct6 : Tryz.prog.cellsOf 74 = 3 := by kernel_rfl
theorem Tryz.cellsInt6 : Tryz.prog.cellsOf 3 = 1 := by kernel_rfl
theorem Tryz.cellsRow6 : Tryz.prog.cellsOf 22 = 1 := by kernel_rfl
section
variable {H : Type} {enc : TypeId × Value → H} {w : World} {spare : Nat → Bool} {held : Bool}
set_option maxRecDepth 100000 in
theorem open_act6 {n : Nat} {a : Addr} {cs : List Value} {x : DataW H × List MemPlace} (hc : w.cells? 0 a 3 = some cs) (h : DataW.trod enc Tryz.prog w 0 spare held n 74 cs = some x) :
    ∃ p : ActS, w.cell? (a.add 0) = some (.int .i64 p.k) ∧ w.cell? (a.add 1) = some p.v ∧ w.cell? (a.add 2) = some (.int .i64 p.n) ∧ RdS w p.v p.nodes ∧ p.nodes.length ≤ 9223372036854775807 ∧ ∀ t ∈ p.nodes, t.size ≤ 9223372036854775807 := by
  obtain ⟨_, hl, hg⟩ := World.cells?_some hc
  obtain ⟨xs, m, _, _, _, hxl, hf⟩ := DataW.trod_struct Tryz.underlying74 h
  match cs, hl with
  | [c0, c1, c2], _ =>
    have f0 : DataW.trod enc Tryz.prog w 0 spare held m 3 (([c0, c1, c2].drop 0).take (Tryz.prog.cellsOf 3)) = xs[0]? := hf 0 _ rfl
    have f1 : DataW.trod enc Tryz.prog w 0 spare held m 22 (([c0, c1, c2].drop 1).take (Tryz.prog.cellsOf 22)) = xs[1]? := hf 1 _ rfl
    have f2 : DataW.trod enc Tryz.prog w 0 spare held m 3 (([c0, c1, c2].drop 2).take (Tryz.prog.cellsOf 3)) = xs[2]? := hf 2 _ rfl
    rw [Tryz.cellsInt6] at f0 f2
    rw [Tryz.cellsRow6] at f1
    dsimp only [List.drop, List.take] at f0 f1 f2
    have hx : ∀ i, i < 3 → ∃ y, xs[i]? = some y := fun i hi => ⟨_, List.getElem?_eq_getElem (by rw [hxl]; exact hi)⟩
    obtain ⟨y0, e0⟩ := hx 0 (by omega)
    obtain ⟨y1, e1⟩ := hx 1 (by omega)
    obtain ⟨y2, e2⟩ := hx 2 (by omega)
    rw [e0] at f0
    rw [e1] at f1
    rw [e2] at f2
    obtain ⟨k, q0, _, _⟩ := DataW.trod_int Tryz.underlying3 f0
    obtain ⟨r, q2, _, _⟩ := DataW.trod_int Tryz.underlying3 f2
    simp only [List.cons.injEq, and_true] at q0 q2
    subst q0 q2
    have hs : ∃ a n c, c1 = .slice a n c := by
      rcases open_slice Tryz.underlying22 f1 with ⟨hcs, _⟩ | ⟨b, len, cap, _, _, _, _, hcs, _⟩
      · exact ⟨none, 0, 0, by simpa [Value.cells] using hcs⟩
      · exact ⟨some b, len, cap, by simpa [Value.cells] using hcs⟩
    obtain ⟨l, r1, r2, r3⟩ := open_texts (v := c1) (d := y1.1) (p := y1.2) hs ⟨m, by obtain ⟨a1, n1, c1', rfl⟩ := hs; exact f1⟩
    exact ⟨⟨k, c1, l, r⟩, hg 0 (by omega), hg 1 (by omega), hg 2 (by omega), r1, r2, r3⟩
set_option maxRecDepth 100000 in
theorem open_acts6 {v : Value} {d : DataW H} {p : List MemPlace} (hv : ∃ a n c, v = .slice a n c) (h : DataW.Trod enc Tryz.prog w 0 spare held 68 v d p) :
    ∃ l : List ActS, RdAct w v l ∧ l.length ≤ 9223372036854775807 ∧ SmallA6 l := by
  obtain ⟨a0, n0, c0, rfl⟩ := hv
  obtain ⟨fuel, hf⟩ := h
  rcases open_slice Tryz.underlying68 hf with ⟨hcs, _⟩ | ⟨a, len, cap, m, n, D, Pl, hcs, _, hl, hm, hmm, _, hi⟩
  · simp only [Value.cells] at hcs
    have hcs' : Value.slice a0 n0 c0 = .slice none 0 0 := by simpa using hcs
    rw [hcs']
    exact ⟨[], .inl ⟨none, 0, rfl, rfl⟩, by simp, fun p hp => by cases hp⟩
  · have hcs' : Value.slice a0 n0 c0 = .slice (some a) len cap := by simpa [Value.cells] using hcs
    rw [hcs']
    have hlm : len ≤ m := by rw [hmm]; split <;> omega
    obtain ⟨l, hll, hlp⟩ := list_of len (⟨0, .bool false, [], 0⟩ : ActS) (fun i p => w.cell? ((a.add (i * 3)).add 0) = some (.int .i64 p.k) ∧ w.cell? ((a.add (i * 3)).add 1) = some p.v ∧ w.cell? ((a.add (i * 3)).add 2) = some (.int .i64 p.n) ∧ RdS w p.v p.nodes ∧ p.nodes.length ≤ 9223372036854775807 ∧ ∀ t ∈ p.nodes, t.size ≤ 9223372036854775807) (fun i hi' => by
      obtain ⟨cs', h1, h2⟩ := hi i (by omega)
      rw [Tryz.cellsAct6] at h1
      exact open_act6 h1 h2)
    have hsz : SmallA6 l := fun p hp => by
      obtain ⟨i, hi⟩ := List.getElem?_of_mem hp
      exact (hlp i p hi).2.2.2.2
    have hlen : l.length ≤ 9223372036854775807 := by have := maxLen_big; omega
    refine ⟨l, ?_, hlen, hsz⟩
    by_cases h0 : len = 0
    · subst h0
      exact .inl ⟨some a, cap, rfl, List.eq_nil_of_length_eq_zero hll⟩
    · obtain ⟨p0, hp0⟩ : ∃ p, l[0]? = some p := ⟨_, List.getElem?_eq_getElem (by omega)⟩
      have hspot : a.spot = none := by simpa [Addr.add] using World.cell?_spot (hlp 0 p0 hp0).1
      obtain ⟨b, o, sp⟩ := a
      dsimp only at hspot
      subst hspot
      refine .inr ⟨b, o, cap, by rw [hll], World.block_lt_of_cell? w _ (hlp 0 p0 hp0).1, by omega, fun j x hx => ?_⟩
      obtain ⟨q1, q2, q3, q4, _⟩ := hlp j x hx
      rw [Go.Deep.add_add, Go.WideShapes.add_plain] at q1 q2 q3
      exact ⟨q1, q2, q3, q4⟩
end
end
end Go.Proofs.YtjogjmffkmfmbaaGreatDoor
