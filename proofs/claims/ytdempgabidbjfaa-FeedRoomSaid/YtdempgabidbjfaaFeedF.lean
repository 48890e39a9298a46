/- The feed: Pop. -/
import Derived.Test.YtdempgabidbjfaaFeedE
namespace Go.Proofs.Ytdempgabidbjfaa
open Go Go.RowKit
set_option linter.unusedSimpArgs false
set_option linter.unusedVariables false

theorem map_five (l : List Ntc) : (l.map (fun _ => 5)).sum = l.length * 5 := by
  induction l with
  | nil => rfl
  | cons x r ih => simp [ih]; omega

/-- What Pop answers. -/
def PopRet (A : List AQ) (k : Int) (e : Ending) : Prop :=
  ∃ n : Ntc, e = .returned (.tuple #[.agg n.cells.toArray, .bool (headA A k).isSome]) ∧ n.chg.oneCell' = true ∧ ∀ a, headA A k = some a → n.abs = a

section
variable {w : World} {bf bm : Nat} {room : Int} {clock : Nat} {es : List QQ} (h : FeedAt w bf bm room clock es)
include h

set_option maxHeartbeats 1000000 in
theorem pop_c (k : Int) : Calls Try.prog 14 #[.pointer (some ⟨bf, 0, none⟩), .int .i64 k] w fun e w' =>
    PopRet (view es) k e ∧ Next w w' bf bm room es (popA (view es) k) := by
  have e0 : Ext w (w.alloc (.cells #[.int .i64 0, .int .i64 0, .int .i64 0, .string ⟨#[]⟩, .slice none 0 0] 31)) := (Keeps.refl _ w).alloc _
  have hl := (h.keeps e0 (fun _ _ g => g)).look k
  have h1 := h.c1
  have hlt := h.feed.lt
  have h0 := Lib.hid h
  have hfin : ∀ v, headA (view es) k = none → v = (.agg #[.int .i64 0, .int .i64 0, .int .i64 0, .string ⟨#[]⟩, .slice none 0 0] : Value) → PopRet (view es) k (.returned (.tuple #[v, .bool false])) := by
    intro v hn hv
    exact ⟨⟨0, 0, 0, [], .slice none 0 0⟩, by rw [hv, hn]; rfl, rfl, fun a ha => by rw [hn] at ha; cases ha⟩
  have HF := Lib.hid hfin
  clear hfin
  have hX : Next w (w.alloc (.cells #[.int .i64 0, .int .i64 0, .int .i64 0, .string ⟨#[]⟩, .slice none 0 0] 31)) bf bm room es (view es) := by
    have e1 : Ext w (w.alloc (.cells #[.int .i64 0, .int .i64 0, .int .i64 0, .string ⟨#[]⟩, .slice none 0 0] 31)) := (Keeps.refl _ w).alloc _
    exact ⟨clock, es, h.keeps e1 (fun _ _ g => g), rfl, e1.mono (fun _ _ g => g.elim), fun b hb => .inl hb⟩
  have HX := Lib.hid hX
  clear hX
  cases hq : getQ es k with
  | none =>
    have H := Lib.hid (show headA (view es) k = none ∧ popA (view es) k = view es by simp [headA, hq, popA, getA_view])
    rw [hq] at hl
    simp only [Option.map_none, Option.getD_none] at hl
    clear hq h
    go_enter Try.func14, Try.ntmps14
    go_wp2
    refine bodyPost_ret (v := .tuple #[.agg #[.int .i64 0, .int .i64 0, .int .i64 0, .string ⟨#[]⟩, .slice none 0 0], .bool false]) (by simp [results, Try.results14, go_sem]) rfl ⟨HF.out _ H.out.1 rfl, ?_⟩
    rw [H.out.2]
    exact HX.out
  | some q =>
    obtain ⟨hm, hk⟩ := getQ_mem hq
    rw [hq] at hl
    simp only [Option.map_some, Option.getD_some] at hl
    obtain ⟨a, cap, hsl⟩ := (h.row q hm).slice
    have hqs := (h.que q hm).cell (i := 1) (v := .slice a q.ns.length cap) (by rw [← hsl]; rfl)
    have hql := (h.que q hm).lt
    cases hns : q.ns with
    | nil =>
      have H := Lib.hid (show headA (view es) k = none ∧ popA (view es) k = view es by simp [headA, hq, popA, getA_view, hns])
      rw [hns] at hqs
      simp only [List.length_nil] at hqs
      clear hq h hsl hm hk hns
      go_enter Try.func14, Try.ntmps14
      go_wp2
      refine bodyPost_ret (v := .tuple #[.agg #[.int .i64 0, .int .i64 0, .int .i64 0, .string ⟨#[]⟩, .slice none 0 0], .bool false]) (by simp [results, Try.results14, go_sem]) rfl ⟨HF.out _ H.out.1 rfl, ?_⟩
      rw [H.out.2]
      exact HX.out
    | cons n rest =>
      clear HF HX e0 hqs
      have hrow := h.row q hm
      obtain ⟨r1, ⟨r2, r3⟩ | ⟨g, cap', cur, r2, _, r4, r5, r6, r7, r8⟩⟩ := hrow
      · rw [hns] at r3; simp at r3
      rw [hns] at r2 r5 r8
      simp only [List.length_cons] at r2 r5 r8
      have hB : Blk w g (.cells cur.toList.toArray 31) := by simpa using (show Blk w g _ from r4)
      have hgl := hB.lt
      have hone : ∀ u ∈ cur.toList.take ((rest.length + 1) * 5), u.oneCell' = true := by
        rw [r8]; intro u hu
        obtain ⟨x, hx, hu⟩ := List.mem_flatMap.1 hu
        exact ntc_one x (h.chg q hm x (by rw [hns]; exact hx)) u hu
      have hc : ∀ i v, n.cells[i]? = some v → w.cell? ⟨g, i, none⟩ = some v := by
        intro i v hi
        refine hB.cellL ?_
        have hlt : i < 5 := by have := (List.getElem?_eq_some_iff.1 hi).1; simpa [Ntc.cells] using this
        have e : (cur.toList.take ((rest.length + 1) * 5))[i]? = cur.toList[i]? := by rw [List.getElem?_take, if_pos (by omega)]
        rw [← e, r8]
        simp only [List.flatMap_cons]
        rw [List.getElem?_append_left (by simpa [Ntc.cells] using hlt)]; exact hi
      have hc0 := hc 0 _ rfl
      have hc1 := hc 1 _ rfl
      have hc2 := hc 2 _ rfl
      have hc3 := hc 3 _ rfl
      have hc4 := hc 4 _ rfl
      clear hc
      have hqs := (h.que q hm).cell (i := 1) (v := .slice (some ⟨g, 0, none⟩) (rest.length + 1) cap') (by rw [← r2]; rfl)
      have hH := Lib.hid (show headA (view es) k = some n.abs ∧ popA (view es) k = tidyA (setA (view es) k (q.fol, rest.map Ntc.abs)) k by simp [headA, hq, popA, getA_view, hns])
      have st3 := fun a W => run_store Try.prog W a (str n.root) .plain rfl
      have st4 := fun a W => run_store Try.prog W a n.chg .plain (h.chg q hm n (by rw [hns]; exact List.mem_cons_self ..))
      have HON := Lib.hid (h.chg q hm n (by rw [hns]; exact List.mem_cons_self ..))
      -- the world in which Delete is called
      obtain ⟨wA, hwA⟩ : ∃ wA, wA = (w.alloc (.cells #[.int .i64 0, .int .i64 0, .int .i64 0, .string ⟨#[]⟩, .slice none 0 0] 31)).alloc (.cells n.cells.toArray 31) := ⟨_, rfl⟩
      have eA : Ext w wA := by rw [hwA]; exact ((Keeps.refl _ w).alloc _).alloc _
      have sA : wA.heap.size = w.heap.size + 2 := by rw [hwA]; simp
      have bZ : Blk wA w.heap.size (.cells #[.int .i64 0, .int .i64 0, .int .i64 0, .string ⟨#[]⟩, .slice none 0 0] 31) := by rw [hwA]; exact (Blk.new w _).alloc _
      have bN : Blk wA (w.heap.size + 1) (.cells n.cells.toArray 31) := by
        rw [hwA]; have := Blk.new (w.alloc (.cells #[.int .i64 0, .int .i64 0, .int .i64 0, .string ⟨#[]⟩, .slice none 0 0] 31)) (.cells n.cells.toArray 31); rwa [World.size_alloc] at this
      have hA := h.keeps eA (fun _ _ g => g)
      have hgq : g ≠ q.bq := by have := h.ne_qs hm; rw [r2] at this; intro e; exact this (by rw [e]; rfl)
      have hgm : bm ≠ g := by have := h.ne_ms hm; rw [r2] at this; intro e; exact this (by rw [e]; rfl)
      have hmq := h.ne_mq hm
      have hD := Lib.hid (delete_c wA g rest.length cap' cur.toList (by omega) (by have := h.full q hm; have := h.hi; rw [hns] at *; simp at *; omega) (hB.keeps eA (fun g => g)) (by simpa using r7) hone)
      -- behind it, and behind the store
      have hstep : ∀ (w2 : World) (cur' : List Value), Keeps (fun b => b = g) wA w2 → Blk w2 g (.cells cur'.toArray 31) → cur'.length = cap' * 5 → cur'.take (rest.length * 5) = (cur.toList.take ((rest.length + 1) * 5)).drop 5 →
          FeedAt (w2.setCell ⟨q.bq, 1, none⟩ (.slice (some ⟨g, 0, none⟩) rest.length cap')) bf bm room clock (setQ es q.id (fun x => { x with fol := q.fol, sl := .slice (some ⟨g, 0, none⟩) rest.length cap', ns := rest })) ∧
          (∀ b ∈ fBlocks bf bm (setQ es q.id (fun x => { x with fol := q.fol, sl := .slice (some ⟨g, 0, none⟩) rest.length cap', ns := rest })), b ∈ fBlocks bf bm es ∨ wA.heap.size ≤ b) ∧
          Keeps (fun b => b = q.bq ∨ q.sl.ownBlock = some b) wA (w2.setCell ⟨q.bq, 1, none⟩ (.slice (some ⟨g, 0, none⟩) rest.length cap')) := by
        intro w2 cur' k2 b2 l2 t2
        have k3 : Keeps (fun b => b = q.bq ∨ q.sl.ownBlock = some b) wA (w2.setCell ⟨q.bq, 1, none⟩ (.slice (some ⟨g, 0, none⟩) rest.length cap')) :=
          (k2.mono (fun x _ e => .inr (by rw [r2, e]; rfl))).trans' (Keeps.oneSet w2 ⟨q.bq, 1, none⟩ _) (fun x _ e => .inl e)
        have bq2 : Blk w2 q.bq (.cells #[.bool q.fol, q.sl] 56) := (hA.que q hm).keeps k2 (fun e => hgq e.symm)
        have := hA.upd hm (fol' := q.fol) (sl' := .slice (some ⟨g, 0, none⟩) rest.length cap') (ns' := rest) k3 (bq2.set_same (i := 1) _)
          ⟨by simp [Ntc.cells, Function.comp_def, map_five], .inr ⟨g, cap', cur'.toArray, rfl, Nat.zero_le _, b2.set_other (p := ⟨q.bq, 1, none⟩) hgq _, by omega, r6, by simpa using l2, by
            rw [List.toList_toArray, t2, r8]; simp [List.flatMap_cons, Ntc.cells]⟩⟩
          (.inl (by rw [r2]; rfl)) (by have := h.full q hm; rw [hns] at this; simp at this ⊢; omega)
          (fun x hx => h.chg q hm x (by rw [hns]; exact List.mem_cons_of_mem _ hx))
          (Nat.le_trans (by
            have : setQ es q.id (fun x => { x with fol := q.fol, sl := .slice (some ⟨g, 0, none⟩) rest.length cap', ns := rest }) = setQ es q.id (fun x => { x with sl := .slice (some ⟨g, 0, none⟩) rest.length cap', ns := rest }) :=
              setQ_fol _ _ _ _ fun x hx hxk => by rw [getQ_uniq hq h.ids hx (hxk.trans hk)]
            rw [this]; exact nfol_set_false es q.id _ (fun x e => e)) h.fols)
        exact ⟨this.1, this.2, k3⟩
      have HS := Lib.hid hstep
      clear hstep
      have HQ := Lib.hid hq
      have HA := Lib.hid hwA
      have R := Lib.hid (show wA.cell? ⟨q.bq, 1, none⟩ = some q.sl ∧ wA.frozen? ⟨q.bq, 1, none⟩ = false from ⟨(hA.que q hm).cell (by rfl), (hA.que q hm).frozen⟩)
      have BQ := Lib.hid (hA.que q hm)
      have HAF := Lib.hid hA
      have EA := Lib.hid eA
      have hbs : w.heap.size ≠ bm ∧ w.heap.size + 1 ≠ bm ∧ w.heap.size ≠ q.bq ∧ w.heap.size + 1 ≠ q.bq ∧ w.heap.size ≠ g ∧ w.heap.size + 1 ≠ g := by have := h.map.lt; omega
      have h0lt := Lib.hid (show ∀ b ∈ fBlocks bf bm es, b < w.heap.size from fun b hb => h.lt hb)
      clear hsl hm hk hns h r1 r4 r5 r6 r7 r8 hB hone hA hq eA hwA r2
      have hz0 : (((rest.length : Int) + 1) == 0) = false := by simp only [beq_eq_false_iff_ne, ne_eq]; omega
      go_enter Try.func14, Try.ntmps14
      have HD := Lib.hid (show Calls Try.prog 20 _ _ _ from (HA.out ▸ hD.out))
      go_wp2_with fail
      refine HD.out.mono ?_
      rintro e w2 ⟨rfl, k2, cur', b2, l2, t2⟩
      have k2' : Keeps (fun b => b = g) wA w2 := by rw [HA.out]; exact k2
      have S := Lib.hid (HS.out w2 cur' k2' b2 l2 t2)
      have BQ2 := BQ.out.keeps k2' (fun e => hgq e.symm)
      have c1 : w2.cell? ⟨q.bq, 1, none⟩ = some q.sl := BQ2.cell (by rfl)
      have f1 : w2.frozen? ⟨q.bq, 1, none⟩ = false := BQ2.frozen
      have Z2 := (bZ.keeps k2' (fun e => hbs.2.2.2.2.1 e)).set_other (p := ⟨q.bq, 1, none⟩) hbs.2.2.1 (.slice (some ⟨g, 0, none⟩) rest.length cap')
      have N2 := (bN.keeps k2' (fun e => hbs.2.2.2.2.2 e)).set_other (p := ⟨q.bq, 1, none⟩) hbs.2.2.2.1 (.slice (some ⟨g, 0, none⟩) rest.length cap')
      have K2 := Lib.hid k2'
      clear k2 k2' b2 l2 t2 BQ2
      go_wp2_with fail
      refine (tidy_c S.out.1 k).mono ?_
      rintro e w4 ⟨rfl, F4, k4⟩
      have Z4 := Z2.keeps k4 hbs.1
      have N4 := N2.keeps k4 hbs.2.1
      have z0 := Z4.cell (i := 0) (by rfl)
      have z1 := Z4.cell (i := 1) (by rfl)
      have z2 := Z4.cell (i := 2) (by rfl)
      have z3 := Z4.cell (i := 3) (by rfl)
      have z4 := Z4.cell (i := 4) (by rfl)
      have zf : ∀ i, w4.frozen? ⟨w.heap.size, i, none⟩ = false := fun i => Z4.frozen
      have n0 := N4.cell (i := 0) (v := .int .i64 n.ses) (by rfl)
      have n1 := N4.cell (i := 1) (v := .int .i64 n.err) (by rfl)
      have n2 := N4.cell (i := 2) (v := .int .i64 n.blk) (by rfl)
      have n3 := N4.cell (i := 3) (v := str n.root) (by rfl)
      have n4 := N4.cell (i := 4) (v := n.chg) (by rfl)
      have hNx := tidy_next HAF.out HQ.out S.out.1 S.out.2.1 S.out.2.2 F4 k4
      have HN := Lib.hid hNx
      have Z4' := Lib.hid Z4
      clear hNx F4 k4 Z4 N4 Z2 N2 c1 f1
      go_wp2
      have Z5 := Blk.setCells n.cells 0 w4 _ Z4'.out (by simp [Ntc.cells])
      have k5 := Keeps.oneSetCells w.heap.size n.cells 0 w4
      show bodyPost _ _ _ _ _ (w4.setCells w.heap.size 0 n.cells)
      obtain ⟨W5, hW5⟩ : ∃ W5, W5 = w4.setCells w.heap.size 0 n.cells := ⟨_, rfl⟩
      rw [← hW5] at Z5 k5 ⊢
      have m0 := Z5.cell (i := 0) (v := .int .i64 n.ses) (by rfl)
      have m1 := Z5.cell (i := 1) (v := .int .i64 n.err) (by rfl)
      have m2 := Z5.cell (i := 2) (v := .int .i64 n.blk) (by rfl)
      have m3 := Z5.cell (i := 3) (v := str n.root) (by rfl)
      have m4 := Z5.cell (i := 4) (v := n.chg) (by rfl)
      refine bodyPost_ret (v := .tuple #[.agg n.cells.toArray, .bool true]) (by simp [results, Try.results14, go_sem, m0, m1, m2, m3, m4, Ntc.cells]) rfl ⟨⟨n, by rw [hH.out.1]; rfl, HON.out, fun a ha => by rw [hH.out.1] at ha; simpa using ha⟩, ?_⟩
      rw [hH.out.2]
      obtain ⟨ck, es', y1, y2, y3, y4⟩ := HN.out
      refine ⟨ck, es', y1.keeps k5 (fun b hb e => ?_), y2, ((EA.out.mono (fun _ _ g => g.elim)).trans' y3 (fun x _ hx => hx)).trans' k5 (fun x hx e => by omega), fun b hb => (y4 b hb).imp id (fun e => by omega)⟩
      rcases y4 b hb with e' | e'
      · have := h0lt.out b e'; omega
      · omega
end
end Go.Proofs.Ytdempgabidbjfaa
