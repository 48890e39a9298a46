/- Delete on a row of notices; a queue changed; New, Unsubscribe, Pop. -/
import Derived.Test.YtdempgabidbjfaaFeedB
namespace Go.Proofs.Ytdempgabidbjfaa
open Go Go.RowKit
set_option linter.unusedSimpArgs false
set_option linter.unusedVariables false

theorem ntc_one (n : Ntc) (hc : n.chg.oneCell' = true) : ∀ u ∈ n.cells, u.oneCell' = true := by
  intro u hu; simp only [Ntc.cells, List.mem_cons, List.not_mem_nil, or_false] at hu
  rcases hu with rfl | rfl | rfl | rfl | rfl <;> first | rfl | exact hc

def zeroN : List Value := [.int .i64 0, .int .i64 0, .int .i64 0, .string ⟨#[]⟩, .slice none 0 0]

theorem run_clear {P : Program} (t r e : TypeId) (ht : P.underlying t = some (.slice e)) {z : Array Value} (hz : ∀ w, (zeroValue e).run P w = .ok (.agg z) w) (h0 : 0 < z.size) (w : World) (g o cap : Nat)
    (hc : ∀ j, j < z.size → (w.cell? ⟨g, o + j, none⟩).isSome = true) (hf : ∀ j, j < z.size → w.frozen? ⟨g, o + j, none⟩ = false) (h1 : ∀ v ∈ z.toList, v.oneCell' = true) :
    (Builtin.clear_ #[t] r #[.slice (some ⟨g, o, none⟩) 1 cap]).run P w = .ok (.tuple #[]) (w.setCells g o z.toList) := by
  have hz' : (Builtin.zeroCells z 1).toList = z.toList := by
    apply List.ext_getElem
    · simp [Builtin.zeroCells]
    · intro j hj1 hj2
      have hj : j < z.size := by simpa using hj2
      simp [Builtin.zeroCells, Nat.mod_eq_of_lt hj, hj]
  have hst := run_storeCells_cells (P := P) g o z.toList 0 w (by simpa using hc) (by simpa using hf) h1
  simp only [Nat.add_zero] at hst
  simp [Builtin.clear_, Sem.run_bind, Result.andThen, run_underlying ht, hz, Value.cells, hz', hst]

theorem Try.zeroNtc (w : World) : (zeroValue 31).run Try.prog w = .ok (.agg #[.int .i64 0, .int .i64 0, .int .i64 0, .string ⟨#[]⟩, .slice none 0 0]) w := by kernel_rfl

set_option maxHeartbeats 1000000 in
/-- 's = slices.Delete(s, 0, 1)' of a row that is not empty. -/
theorem delete_c (w : World) (g m cap : Nat) (cur : List Value) (hn : m + 1 ≤ cap) (hm : m ≤ 1000) (hb : Blk w g (.cells cur.toArray 31)) (hs : cur.length = cap * 5)
    (hone : ∀ u ∈ cur.take ((m + 1) * 5), u.oneCell' = true) :
    Calls Try.prog 20 #[.slice (some ⟨g, 0, none⟩) (m + 1) cap, .int .i64 0, .int .i64 1] w fun e w' =>
      e = .returned (.slice (some ⟨g, 0, none⟩) m cap) ∧ Keeps (fun b => b = g) w w' ∧
      ∃ cur' : List Value, Blk w' g (.cells cur'.toArray 31) ∧ cur'.length = cap * 5 ∧ cur'.take (m * 5) = (cur.take ((m + 1) * 5)).drop 5 := by
  have hn2 : (1 : Int) ≤ (m : Int) + 1 := by omega
  have hcm : ¬ cap = m := by omega
  have hcm1 : m ≤ cap := by omega
  obtain ⟨i0, hi, hz0, hz1, hz2⟩ := info_parts Try.infoN
  have hgl := hb.lt
  have Hc := Lib.hid (show ∀ j u, cur[j]? = some u → w.drew.cell? ⟨g, j, none⟩ = some u from fun j u hj => hb.cellL hj)
  have Hs := Lib.hid (show ∀ j, j < cur.length → (w.drew.cell? ⟨g, j, none⟩).isSome = true from fun j hj => by rw [Hc.out j _ (List.getElem?_eq_getElem hj)]; rfl)
  have Hf := Lib.hid (show ∀ j, w.drew.frozen? ⟨g, j, none⟩ = false from fun j => hb.frozen)
  have Hl := Lib.hid hs
  have Ho := Lib.hid hone
  have HB := Lib.hid hb
  -- what is moved
  obtain ⟨news, hnews⟩ : ∃ news, news = (cur.take ((m + 1) * 5)).drop 5 := ⟨_, rfl⟩
  have Hn := Lib.hid hnews
  have hnl : news.length = m * 5 := by rw [hnews]; simp; omega
  have Hnl := Lib.hid hnl
  -- the world behind the append, and behind the clear
  have hb1 : Blk (w.drew.setCells g 0 news) g (.cells (news ++ cur.drop (m * 5)).toArray 31) := by
    have := Blk.setCells news 0 w.drew cur hb (by omega)
    simpa [hnl] using this
  obtain ⟨W1, hW1⟩ : ∃ W1, W1 = w.drew.setCells g 0 news := ⟨_, rfl⟩
  rw [← hW1] at hb1
  have hl1 : (news ++ cur.drop (m * 5)).length = cap * 5 := by simp; omega
  have hcl : ∀ r, (Builtin.clear_ #[54] r #[.slice (some ⟨g, m * 5, none⟩) 1 (cap - m)]).run Try.prog W1 = .ok (.tuple #[]) (W1.setCells g (m * 5) zeroN) := fun r =>
    run_clear _ r _ Try.uNs Try.zeroNtc (by simp) W1 g (m * 5) (cap - m) (fun j hj => by
        have hj' : j < 5 := by simpa using hj
        have hlt : m * 5 + j < (news ++ cur.drop (m * 5)).length := by omega
        rw [hb1.cellL (List.getElem?_eq_getElem hlt)]; rfl) (fun j _ => hb1.frozen) (by simp [Value.oneCell'])
  have hb2 := Blk.setCells zeroN (m * 5) W1 _ hb1 (by rw [hl1]; simp [zeroN]; omega)
  have HE := Lib.hid (show Keeps (fun b => b = g) w (W1.setCells g (m * 5) zeroN) ∧ ∃ cur' : List Value, Blk (W1.setCells g (m * 5) zeroN) g (.cells cur'.toArray 31) ∧ cur'.length = cap * 5 ∧ cur'.take (m * 5) = (cur.take ((m + 1) * 5)).drop 5 from by
    refine ⟨?_, _, hb2, ?_, ?_⟩
    · have k1 : Keeps (fun b => b = g) w W1 := by rw [hW1]; exact (Keeps.refl _ w).drew.trans (Keeps.oneSetCells g news 0 w.drew)
      exact k1.trans (Keeps.oneSetCells g zeroN (m * 5) W1)
    · simp [zeroN, hnl, hs]; omega
    · rw [← hnews]
      simp [hnl, List.take_append])
  have HW := Lib.hid hW1
  clear hs hone hb hb1 hb2 hnews hnl hl1 hW1
  go_enter Try.func20, Try.ntmps20
  by_cases h1c : cap = 1
  · subst h1c
    obtain rfl : m = 0 := by omega
    go_wp2
    go_wp2
    go_region_law (refine step_append_room rfl (.tmp 22) (.tmp 25) 54 rfl 31 i0 5 Try.uNs hi hz1 g 0 0 1 (by simp [Act.eval, Act.put]) ⟨g, 0, none⟩ 0 0 [] (by simp [Act.eval, Act.put]) rfl (by simp) (by simp) (by omega) (by simp) ?_)
    have e0 : news = [] := by rw [Hn.out]; simp
    rw [e0] at HW
    rw [← HW.out]
    go_wp2
    go_ret
    exact ⟨rfl, HE.out⟩
  · have h1c' : (1 : Nat) < cap := by omega
    go_wp2
    go_wp2
    have A1 := Lib.hid (show ∀ j u, news[j]? = some u → w.drew.cell? ((⟨g, 5, none⟩ : Addr).add j) = some u from by
      intro j u hj
      have ea : (⟨g, 5, none⟩ : Addr).add j = ⟨g, 5 + j, none⟩ := by unfold Addr.add; split <;> simp_all
      rw [ea]; rw [Hn.out] at hj
      refine Hc.out _ _ ?_
      rw [List.getElem?_drop, List.getElem?_take] at hj
      split at hj
      · exact hj
      · cases hj)
    have A2 := Lib.hid (show ∀ u ∈ news, u.oneCell' = true from by intro u hu; rw [Hn.out] at hu; exact Ho.out u (List.mem_of_mem_drop hu))
    have A3 := Lib.hid (show ∀ j, j < news.length → (w.drew.cell? ⟨g, 0 + 0 * 5 + j, none⟩).isSome = true ∧ w.drew.frozen? ⟨g, 0 + 0 * 5 + j, none⟩ = false from by
      intro j hj; rw [Hnl.out] at hj
      exact ⟨by have := Hs.out j (by rw [Hl.out]; omega); simpa using this, Hf.out _⟩)
    go_region_law (refine step_append_room rfl (.tmp 22) (.tmp 25) 54 rfl 31 i0 5 Try.uNs hi hz1 g 0 0 cap (by simp [Act.eval, Act.put]) ⟨g, 5, none⟩ m (cap - 1) news (by simp [Act.eval, Act.put]) Hnl.out A1.out A2.out (by omega) A3.out ?_)
    rw [← HW.out]
    go_wp2
    go_ret
    exact ⟨rfl, HE.out⟩
end Go.Proofs.Ytdempgabidbjfaa
