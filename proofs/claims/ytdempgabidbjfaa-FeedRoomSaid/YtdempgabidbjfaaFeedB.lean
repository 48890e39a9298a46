/- The feed: the contracts of its methods that write, but for Push. -/
import Derived.Test.YtdempgabidbjfaaFeedA
namespace Go.Proofs.Ytdempgabidbjfaa
open Go Go.RowKit
set_option linter.unusedSimpArgs false
set_option linter.unusedVariables false

/-- What tidy leaves. -/
def tidyQ (es : List QQ) (k : Int) : List QQ :=
  match getQ es k with
  | some q => if q.fol = false ∧ q.ns = [] then remQ es k else es
  | none => es

theorem entDel_ent (es : List QQ) (k : Int) (h : (es.map QQ.id).Nodup) : entDel (es.map QQ.ent) k = (remQ es k).map QQ.ent := by
  induction es with
  | nil => rfl
  | cons q r ih =>
    simp only [List.map_cons, List.nodup_cons] at h
    by_cases hk : k = q.id
    · have hr : remQ r k = r := by
        unfold remQ; rw [List.filter_eq_self]
        intro x hx
        simp only [ne_eq, decide_not, Bool.not_eq_true', decide_eq_false_iff_not]
        intro e; exact h.1 (hk ▸ e ▸ List.mem_map_of_mem hx)
      simp only [List.map_cons, entDel, QQ.ent, hk, if_true]
      simp only [remQ, List.filter_cons, hk, ne_eq, not_true_eq_false, decide_false, Bool.false_eq_true, if_false]
      simp only [remQ, hk] at hr
      rw [hr]
    · have := ih h.2
      simp only [List.map_cons, entDel, QQ.ent, hk, if_false]
      simp only [remQ, List.filter_cons, hk, ne_eq, not_false_eq_true, decide_true, if_true, List.map_cons]
      simp only [remQ] at this
      rw [this]; rfl

theorem remQ_sub (es : List QQ) (k : Int) : (remQ es k).Sublist es := List.filter_sublist

theorem own_sub {l l' : List QQ} (h : l'.Sublist l) : (l'.flatMap QQ.own).Sublist (l.flatMap QQ.own) := by
  induction h with
  | slnil => exact List.Sublist.slnil
  | cons a _ ih => exact ih.trans (List.sublist_append_right _ _)
  | cons_cons a _ ih => exact List.Sublist.append (List.Sublist.refl _) ih

theorem nfol_sub {l l' : List QQ} (h : l'.Sublist l) : nfol l' ≤ nfol l := (h.filter _).length_le

section
variable {w : World} {bf bm : Nat} {room : Int} {clock : Nat} {es : List QQ} (h : FeedAt w bf bm room clock es)
include h

theorem FeedAt.ne_fm : bf ≠ bm := by
  have := h.nodup
  simp only [fBlocks, List.nodup_cons, List.mem_cons, not_or] at this
  exact this.1.1
theorem FeedAt.ne_mq {q : QQ} (hq : q ∈ es) : bm ≠ q.bq := by
  have := h.nodup
  simp only [fBlocks, List.nodup_cons, List.mem_cons, not_or, List.mem_flatMap, not_exists, not_and] at this
  exact fun e => this.2.1 q hq (e ▸ List.mem_cons_self ..)
theorem FeedAt.ne_fq {q : QQ} (hq : q ∈ es) : bf ≠ q.bq := by
  have := h.nodup
  simp only [fBlocks, List.nodup_cons, List.mem_cons, not_or, List.mem_flatMap, not_exists, not_and] at this
  exact fun e => this.1.2 q hq (e ▸ List.mem_cons_self ..)
theorem FeedAt.ne_ms {q : QQ} (hq : q ∈ es) : q.sl.ownBlock ≠ some bm := by
  have := h.nodup
  simp only [fBlocks, List.nodup_cons, List.mem_cons, not_or, List.mem_flatMap, not_exists, not_and] at this
  exact fun e => this.2.1 q hq (by simp [QQ.own, e])
theorem FeedAt.ne_fs {q : QQ} (hq : q ∈ es) : q.sl.ownBlock ≠ some bf := by
  have := h.nodup
  simp only [fBlocks, List.nodup_cons, List.mem_cons, not_or, List.mem_flatMap, not_exists, not_and] at this
  exact fun e => this.1.2 q hq (by simp [QQ.own, e])

/-- A queue is struck from the map. -/
theorem FeedAt.del (k : Int) : FeedAt (w.putObj bm (.map (EI.arr (entDel (es.map QQ.ent) k)) clock)) bf bm room clock (remQ es k) := by
  have hs := remQ_sub es k
  have hm : ∀ q, q ∈ remQ es k → q ∈ es := fun q hq => hs.mem hq
  rw [entDel_ent es k h.ids]
  refine ⟨h.feed.put_other h.ne_fm _, h.map.put_same _, fun q hq => (h.que q (hm q hq)).put_other (fun e => h.ne_mq (hm q hq) e.symm) _, fun q hq => ?_, ?_, h.ids.sublist (hs.map _), fun q hq => h.born q (hm q hq),
    h.stamps.sublist (hs.map _), h.lo, h.hi, fun q hq => h.full q (hm q hq), Nat.le_trans (nfol_sub hs) h.fols, fun q hq => h.wf q (hm q hq), Nat.le_trans hs.length_le h.few, fun q hq => h.chg q (hm q hq)⟩
  · exact World.ownsRow.kept (h.row q (hm q hq)) (grownBy_putObj' w bm _) (.inr (h.ne_ms (hm q hq)))
  · exact h.nodup.sublist (((own_sub hs).cons_cons _).cons_cons _)

theorem FeedAt.run_del (k : Int) (r : TypeId) : (Builtin.delete_ #[46, 3] r #[.map (some bm), .int .i64 k]).run Try.prog w = .ok (.tuple #[]) (w.putObj bm (.map (EI.arr (entDel (es.map QQ.ent) k)) clock)) :=
  run_delete EI Try.uMap h.map k _ r

set_option maxHeartbeats 400000 in
theorem tidy_c (k : Int) : Calls Try.prog 21 #[.pointer (some ⟨bf, 0, none⟩), .int .i64 k] w fun e w' => e = .returned (.tuple #[]) ∧ FeedAt w' bf bm room clock (tidyQ es k) ∧ Keeps (fun b => b = bm) w w' := by
  have hl := h.look k
  have h1 := h.c1
  have hd := h.run_del k
  have hF := Lib.hid (h.del k)
  have h0 := Lib.hid h
  cases hq : getQ es k with
  | none =>
    have H := Lib.hid (show tidyQ es k = es by simp [tidyQ, hq])
    rw [hq] at hl
    simp only [Option.map_none, Option.getD_none] at hl
    clear hq h hd
    go_enter Try.func21, Try.ntmps21
    go_wp2
    go_end0
    exact ⟨rfl, by rw [H.out]; exact h0.out, Keeps.refl _ _⟩
  | some q =>
    obtain ⟨a, cap, hsl⟩ := (h.row q (getQ_mem hq).1).slice
    have hqf := (h.que q (getQ_mem hq).1).cell (i := 0) (v := .bool q.fol) (by rfl)
    have hqs := (h.que q (getQ_mem hq).1).cell (i := 1) (v := .slice a q.ns.length cap) (by rw [← hsl]; rfl)
    rw [hq] at hl
    simp only [Option.map_some, Option.getD_some] at hl
    cases hf : q.fol with
    | true =>
      have H := Lib.hid (show tidyQ es k = es by simp [tidyQ, hq, hf])
      rw [hf] at hqf
      clear hq h hd hsl hf
      go_enter Try.func21, Try.ntmps21
      go_wp2
      go_end0
      exact ⟨rfl, by rw [H.out]; exact h0.out, Keeps.refl _ _⟩
    | false =>
      by_cases hn : q.ns = []
      · have H := Lib.hid (show tidyQ es k = remQ es k by simp [tidyQ, hq, hf, hn])
        rw [hf] at hqf
        rw [hn] at hqs
        simp only [List.length_nil] at hqs
        clear hq h hsl hf hn
        go_enter Try.func21, Try.ntmps21
        go_wp2
        go_end0
        exact ⟨rfl, by rw [H.out]; exact hF.out, Keeps.onePut _ _ _⟩
      · have H := Lib.hid (show tidyQ es k = es by simp [tidyQ, hq, hf, hn])
        have hz : ((q.ns.length : Int) == 0) = false := by
          simp only [beq_eq_false_iff_ne, ne_eq]
          have : q.ns.length ≠ 0 := fun e => hn (List.eq_nil_of_length_eq_zero e)
          omega
        rw [hf] at hqf
        clear hq h hd hsl hf hn
        go_enter Try.func21, Try.ntmps21
        go_wp2
        go_end0
        exact ⟨rfl, by rw [H.out]; exact h0.out, Keeps.refl _ _⟩

set_option maxHeartbeats 400000 in
theorem forget_c (k : Int) : Calls Try.prog 13 #[.pointer (some ⟨bf, 0, none⟩), .int .i64 k] w fun e w' => e = .returned (.int .i64 (waitsN es k)) ∧ FeedAt w' bf bm room clock (remQ es k) ∧ Keeps (fun b => b = bm) w w' := by
  have h1 := h.c1
  have hd := h.run_del k
  have hF := Lib.hid (h.del k)
  have hw := Lib.hid (waiting_c h k)
  clear h
  go_enter Try.func13, Try.ntmps13
  go_wp2_with (go_at_call 11; refine hw.out.mono ?_; rintro e w' ⟨rfl, rfl⟩)
  go_ret
  exact ⟨rfl, hF.out, Keeps.onePut _ _ _⟩
end
end Go.Proofs.Ytdempgabidbjfaa
