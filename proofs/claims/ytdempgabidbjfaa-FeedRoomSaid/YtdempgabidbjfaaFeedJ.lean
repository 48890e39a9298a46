/- The feed: Sessions. -/
import Derived.Test.YtdempgabidbjfaaFeedI
namespace Go.Proofs.Ytdempgabidbjfaa
open Go Go.RowKit
set_option linter.unusedSimpArgs false
set_option linter.unusedVariables false

attribute [local go_sem] Oper.semAt_some

def SessPost (w : World) (es : List QQ) (e : Ending) (w' : World) : Prop :=
  ∃ g, e = .returned (.slice (some ⟨g, 0, none⟩) es.length es.length) ∧ Blk w' g (.cells (ints (order es)).toArray 3) ∧ Ext w w' ∧ w.heap.size ≤ g

/-- Sessions' loop: its slice, in a variable that is captured. -/
def SesC (nb g : Nat) (es : List QQ) (k : Nat) (D : BSet) (W : World) : Prop :=
  (∀ b, D b ↔ b = nb ∨ b = g) ∧ Blk W nb (.cells #[.slice (some ⟨g, 0, none⟩) k es.length] 27) ∧
    ∃ tail : List Value, Blk W g (.cells (ints ((order es).take k) ++ tail).toArray 3) ∧ k + tail.length = es.length
theorem supp_SesC (nb g : Nat) (es : List QQ) (k : Nat) : Supp (SesC nb g es k) :=
  ⟨fun D W ⟨h1, h2, _, h3, _⟩ b hb => by
      rcases (h1 b).1 hb with rfl | rfl
      · exact h2.lt
      · exact h3.lt,
   fun D W W' ⟨h1, h2, tl, h3, h4⟩ _ hb => ⟨h1, (hb _ ((h1 _).2 (.inl rfl))).trans h2, tl, (hb _ ((h1 _).2 (.inr rfl))).trans h3, h4⟩⟩
def sesAct (bf nb g N : Nat) (es : List QQ) (k : Nat) : Act :=
  { tmps := #[.pointer (some ⟨bf, 0, none⟩), undef, .slice none 0 0, .pointer (some ⟨nb, 0, none⟩), .int .i64 ((order es).getD k 0), .pointer (some ⟨bf, 0, none⟩), .pointer (some ⟨bf, 0, none⟩), .pointer (some ⟨bf, 1, none⟩), .map (some N), .int .i64 es.length, .slice (some ⟨g, 0, none⟩) 0 es.length, .pointer (some ⟨bf, 0, none⟩), .func (.func 23) #[] #[.pointer (some ⟨nb + 1, 0, none⟩)], .int .i64 ((order es).getD k 0), qv es k, undef, undef, undef, undef, undef], defers := [] }

section
variable {w : World} {bf bm : Nat} {room : Int} {clock : Nat} {es : List QQ} (h : FeedAt w bf bm room clock es)
include h

set_option maxHeartbeats 2000000 in
theorem sessions_c : Calls Try.prog 10 #[.pointer (some ⟨bf, 0, none⟩)] w (SessPost w es) := by
  have hln := run_len_map EI Try.uMap h.map
  have hml' : (es.map QQ.ent).length = es.length := by simp
  rw [hml'] at hln
  have c1 := h.c1
  have hfew := h.few
  obtain ⟨i0, hi, hz0, hz1, hz2⟩ := info_parts Try.infoI
  have H0 := Lib.hid h
  clear h
  rw [← callsIn_wide (n := 0)]
  refine callsIn_of_wp_marks Try.func10 rfl trivial ?_ rfl
  simp only [Try.ntmps10, List.size_toArray, List.length_cons, List.length_nil, Nat.reduceAdd, Nat.reduceSub, Array.replicate_succ, Array.replicate_zero, List.push_toArray, List.append_toArray, List.nil_append, List.cons_append]
  gi_wp2_with (gi_at_make; refine wpListIn_make_own _ rfl (.const (.int .i64 0)) (.tmp 9) 27 rfl 0 3 i0 (.int .i64 0) 1 Try.uInts hi hz0 hz1 .i64 .i64 _ es.length rfl rfl rfl (by rw [hz2]; omega) (by unfold maxLen; omega) (Nat.zero_le _) ?_)
  intro w1 own1 grow1
  have k1 : Ext w w1 := Keeps.of_grown grow1 (fun _ e => by cases e)
  obtain ⟨_, ⟨e, _⟩ | ⟨g, cap, cur, e, _, b1, _, _, cs1, _⟩⟩ := own1
  · cases e
  cases e
  have B1 := Lib.hid (show Blk w1 w.heap.size (.cells cur.toList.toArray 3) by simpa using (show Blk w1 w.heap.size _ from b1))
  have CS := Lib.hid (show cur.toList.length = es.length by simpa using cs1)
  have K1 := Lib.hid k1
  clear grow1 b1 cs1 k1
  gi_wp2_with fail
  refine ⟨trivial, rfl, CallsIn.mono (callsIn_wide.2 (inOrder_c _ _ _ rfl)) ?_⟩
  rintro e w' ⟨rfl, rfl⟩
  gi_wp2_with fail
  obtain ⟨W0, hW0⟩ : ∃ W0, W0 = (w1.alloc (.cells #[.slice (some ⟨w.heap.size, 0, none⟩) 0 es.length] 27)).alloc (.cells #[.pointer (some ⟨bf, 0, none⟩)] 24) := ⟨_, rfl⟩
  have E0 : Ext w W0 := by rw [hW0]; exact (K1.out.alloc _).alloc _
  have BG : Blk W0 w.heap.size (.cells cur.toList.toArray 3) := by rw [hW0]; exact (B1.out.alloc _).alloc _
  have BN : Blk W0 w1.heap.size (.cells #[.slice (some ⟨w.heap.size, 0, none⟩) 0 es.length] 27) := by rw [hW0]; exact (Blk.new w1 _).alloc _
  have BX : Blk W0 (w1.heap.size + 1) (.cells #[.pointer (some ⟨bf, 0, none⟩)] 24) := by
    rw [hW0]; have := Blk.new (w1.alloc (.cells #[.slice (some ⟨w.heap.size, 0, none⟩) 0 es.length] 27)) (.cells #[.pointer (some ⟨bf, 0, none⟩)] 24); rwa [World.size_alloc] at this
  have S0 : W0.heap.size = w1.heap.size + 2 := by rw [hW0]; simp
  have S1 := B1.out.lt
  rw [← hW0]
  have F0 := H0.out.keeps E0 (fun _ _ g => g)
  have hfl := H0.out.feed.lt
  have hml := H0.out.map.lt
  refine wp_range (N := (es.map QQ.ent).length) (gf := 23) (lb := #[.pointer (some ⟨w1.heap.size + 1, 0, none⟩)]) rfl Try.enter23
    (inOrder_it (w1.heap.size + 1) bf bm room clock (es.map QQ.ent) (by omega) (by rw [hml']; exact H0.out.few) (by rw [List.map_map]; exact H0.out.stamps) (by rw [List.map_map]; exact H0.out.ids)
      (fun x hx => by obtain ⟨q, hq, e⟩ := List.mem_map.1 hx; rw [← e]; exact H0.out.born q hq))
    (supp_InO _ _ _ _ _ _) (fun k => by rw [ioVals_es]; rfl) (SesC w1.heap.size w.heap.size es) (fun _ _ _ _ => False) (supp_SesC w1.heap.size w.heap.size es) (fun _ _ => ⟨fun _ _ h => h.elim, fun _ _ _ h => h.elim⟩)
    (fun b => b = w1.heap.size ∨ b = w.heap.size) (fun b => b = w1.heap.size + 1 ∨ b = bf ∨ b = bm) ⟨fun b => Iff.rfl, BN, cur.toList, by simpa [ints] using BG, by rw [CS.out]; omega⟩ ⟨fun b => Iff.rfl, BX, F0.feed, F0.map⟩
    (fun b hb ho => by rcases hb with rfl | rfl <;> rcases ho with h | h | h <;> omega)
    (sesAct bf w1.heap.size w.heap.size bm es) ?hassign ?hbody ?hdone ?hstop (fun _ => supp_InO _ _ _ _ _ _)
  case hassign =>
    intro l j W K hK
    rw [ioVals_es, fold2]
    change Code.wpIn (Fence.wide.inRound l) 0 _ _ _ { tmps := #[.pointer (some ⟨bf, 0, none⟩), undef, .slice none 0 0, .pointer (some ⟨w1.heap.size, 0, none⟩), undef, .pointer (some ⟨bf, 0, none⟩), .pointer (some ⟨bf, 0, none⟩), .pointer (some ⟨bf, 1, none⟩), .map (some bm), .int .i64 es.length, .slice (some ⟨w.heap.size, 0, none⟩) 0 es.length, .pointer (some ⟨bf, 0, none⟩), .func (.func 23) #[] #[.pointer (some ⟨w1.heap.size + 1, 0, none⟩)], .int .i64 ((order es).getD j 0), qv es j, undef, undef, undef, undef, undef], defers := [] } W
    gi_wp2
    exact hK
  case hbody =>
    intro l j D W hj hc hkk
    rw [hml'] at hj
    obtain ⟨hD, hN, tail, hG, htl⟩ := hc
    have n0 := hN.cell (i := 0) (v := .slice (some ⟨w.heap.size, 0, none⟩) j es.length) (by rfl)
    have nf : W.frozen? ⟨w1.heap.size, 0, none⟩ = false := hN.frozen
    have hol : j ≤ (order es).length := by rw [order_len]; omega
    have hil : (ints ((order es).take j)).length = j := by simp [ints]; omega
    have own : W.ownsRow 0 3 1 (.slice (some ⟨w.heap.size, 0, none⟩) j es.length) j (ints ((order es).take j)) :=
      ⟨by simp [ints]; omega, .inr ⟨_, _, _, rfl, Nat.zero_le _, hG, by omega, by unfold maxLen; omega, by simp [ints, order_len]; omega, by rw [Nat.mul_one]; exact List.take_left' hil⟩⟩
    have OWN := Lib.hid own
    have HD := Lib.hid hD
    have HN := Lib.hid hN
    have HJ := Lib.hid hj
    have hnl := hN.lt
    have HWS := Lib.hid hkk.size
    clear hD hN hG own hkk hol htl hil E0 BG BN BX F0 hW0
    unfold sesAct
    gi_wp2_with (gi_at_builtin; refine wpListIn_append_fits _ rfl (.tmp 15) (.tmp 17) 27 rfl 0 3 i0 1 Try.uInts hi hz1 w.heap.size j es.length _ rfl (World.ownsRow.alloc OWN.out _) ⟨W.heap.size, 0, none⟩ 1 1 [.int .i64 ((order es).getD j 0)] rfl rfl (news_new _ _ _) (by simp [Value.oneCell']) HJ.out ?_)
    intro w6 own6 gr6
    have k6 : Keeps (fun b => b = w.heap.size) W w6 := ((Keeps.refl (fun b => b = w.heap.size) W).alloc _).trans (Keeps.of_grown (F := fun b => b = w.heap.size) gr6 (fun r e _ => by cases e; rfl))
    have hgn : w1.heap.size ≠ w.heap.size := by omega
    have N6 := HN.out.keeps k6 hgn
    have n6 := N6.cell (i := 0) (v := .slice (some ⟨w.heap.size, 0, none⟩) j es.length) (by rfl)
    have f6 : w6.frozen? ⟨w1.heap.size, 0, none⟩ = false := N6.frozen
    have H6 := Lib.hid N6
    have K6 := Lib.hid k6
    have O6 := Lib.hid own6
    clear own6 gr6 k6 N6
    gi_wp2
    have k7 := Keeps.oneSet w6 ⟨w1.heap.size, 0, none⟩ (.slice (some ⟨w.heap.size, 0, none⟩) (j + 1) es.length)
    refine ⟨D, (K6.out.mono (fun x _ e => (HD.out x).2 (.inr e))).trans' k7 (fun x _ e => (HD.out x).2 (.inl e)), fun b hb => .inl hb, HD.out, H6.out.set_same (i := 0) _, ?_⟩
    obtain ⟨_, ⟨e, _⟩ | ⟨g, cap, cr, e, _, b6, _, _, cs6, ct6⟩⟩ := O6.out
    · cases e
    cases e
    have hj2 : j < (order es).length := by rw [order_len]; exact HJ.out
    refine ⟨cr.toList.drop (j + 1), ?_, by simp; have := HJ.out; omega⟩
    have e1 : ints ((order es).take (j + 1)) = cr.toList.take (j + 1) := by
      rw [Nat.mul_one] at ct6; rw [ct6]; unfold ints; rw [List.take_succ_eq_append_getElem hj2, List.map_append]; simp [hj2]
    rw [e1, List.take_append_drop]
    have := (show Blk w6 _ _ from b6).set_other (p := ⟨w1.heap.size, 0, none⟩) (fun e => hgn e.symm) (.slice (some ⟨w.heap.size, 0, none⟩) (j + 1) es.length)
    simpa using this
  case hdone =>
    intro D O W hkp hc hs hdj hDf hOf hbd hDn hOn
    rw [S0] at hbd hDn hOn ⊢
    rw [hml'] at hc
    obtain ⟨_, hN, tail, hG, htl⟩ := hc
    have n0 := hN.cell (i := 0) (v := .slice (some ⟨w.heap.size, 0, none⟩) es.length es.length) (by rfl)
    have htl0 : tail = [] := List.eq_nil_of_length_eq_zero (by omega)
    have hG' : Blk W w.heap.size (.cells (ints (order es)).toArray 3) := by
      rw [htl0, List.take_of_length_le (by rw [order_len]; exact Nat.le_refl _)] at hG; simpa using hG
    have hk := Keeps.onePut W (w1.heap.size + 2) (.deferred none)
    have kall : Ext w (W.putObj (w1.heap.size + 2) (.deferred none)) := by
      have k1 : Keeps (fun b => w.heap.size ≤ b) w W := (E0.mono (fun _ _ g => g.elim)).trans' hkp (fun x hx hh => by
        rcases hh with (h | h) | h
        · show w.heap.size ≤ x; omega
        · show w.heap.size ≤ x; omega
        · exact h.elim)
      exact (k1.trans' hk (fun x hx e => by omega)).mono (fun x hx e => by omega)
    have HP := Lib.hid (show SessPost w es (.returned (.slice (some ⟨w.heap.size, 0, none⟩) es.length es.length)) (W.putObj (w1.heap.size + 2) (.deferred none)) from
      ⟨w.heap.size, rfl, hG'.keeps hk (fun e => by omega), kall, Nat.le_refl _⟩)
    have HBD := Lib.hid hbd
    clear kall hN hG hG' hk hbd hkp hs E0 BG BN BX F0 hW0 htl htl0
    gi_wp2
    refine ⟨by simp, .inl ⟨_, _, rfl, run_takeDeferred HBD.out, ?_⟩⟩
    refine ⟨_, results_tmp rfl _ _ _, ?_⟩
    exact HP.out
  case hstop => intro c j D O W _ _ _ hc; exact hc.elim
end
end Go.Proofs.Ytdempgabidbjfaa
