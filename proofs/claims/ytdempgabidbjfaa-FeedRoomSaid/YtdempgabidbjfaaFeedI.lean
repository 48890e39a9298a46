/- The feed: inOrder, Subscribe. -/
import Derived.Test.YtdempgabidbjfaaFeedH
namespace Go.Proofs.Ytdempgabidbjfaa
open Go Go.RowKit
set_option linter.unusedSimpArgs false
set_option linter.unusedVariables false

attribute [local go_sem] Oper.semAt_some

set_option maxHeartbeats 400000 in
theorem inOrder_c (w : World) (v : Value) (a : Option Addr) (hv : v = .pointer a) : Calls Try.prog 19 #[v] w fun e w' =>
    e = .returned (.func (.func 23) #[] #[.pointer (some ⟨w.heap.size, 0, none⟩)]) ∧ w' = w.alloc (.cells #[v] 24) := by
  subst hv
  go_enter Try.func19, Try.ntmps19
  go_wp2
  go_ret
  exact ⟨rfl, rfl⟩

theorem Try.enter23 (args : Array Value) (w : World) : (callFunc 23 args).run Try.prog w = .ok (.enter 23 args) w := by kernel_rfl

/-- The queues alone. -/
def QueAt (w : World) (es : List QQ) : Prop := ∀ q ∈ es, Blk w q.bq (.cells #[.bool q.fol, q.sl] 56) ∧ NtcRow w 0 q.sl q.ns
def qBlocks (es : List QQ) : List Nat := es.flatMap QQ.own

theorem QueAt.lt {w : World} {es : List QQ} (h : QueAt w es) {b : Nat} (hb : b ∈ qBlocks es) : b < w.heap.size := by
  obtain ⟨q, hq, hb⟩ := List.mem_flatMap.1 hb
  simp only [QQ.own, List.mem_cons, Option.mem_toList] at hb
  rcases hb with rfl | hb
  · exact (h q hq).1.lt
  · exact row_lt (h q hq).2 hb
theorem QueAt.same {w w' : World} {es : List QQ} (h : QueAt w es) (hs : w.heap.size ≤ w'.heap.size) (hb : ∀ b ∈ qBlocks es, w'.heap[b]? = w.heap[b]?) : QueAt w' es := by
  intro q hq
  have m1 : q.bq ∈ qBlocks es := List.mem_flatMap.2 ⟨q, hq, by simp [QQ.own]⟩
  refine ⟨(hb _ m1).trans (h q hq).1, ?_⟩
  obtain ⟨h1, h2 | ⟨g, cap, cur, e, h3, h4, h5⟩⟩ := (h q hq).2
  · exact ⟨h1, .inl h2⟩
  · exact ⟨h1, .inr ⟨g, cap, cur, e, h3, (hb g (List.mem_flatMap.2 ⟨q, hq, by simp [QQ.own, e, Value.ownBlock]⟩)).trans h4, h5⟩⟩

/-- The order in which the queues are come to. -/
def order (es : List QQ) : List Int := sorted (es.map QQ.id)
def cnt (es : List QQ) (k : Nat) : Nat := (((order es).take k).filter (fun i => followsB es i)).length

theorem order_len (es : List QQ) : (order es).length = es.length := by simp [order, sorted]
theorem ioVals_es (es : List QQ) (k : Nat) : ioVals (es.map QQ.ent) k = #[.int .i64 ((order es).getD k 0), ((getQ es ((order es).getD k 0)).map fun q => Value.pointer (some ⟨q.bq, 0, none⟩)).getD (.pointer none)] := by
  have e : (es.map QQ.ent).map (·.1) = es.map QQ.id := by rw [List.map_map]; rfl
  simp only [ioVals, e, entGet_ent]; rfl
theorem order_mem {es : List QQ} {k : Nat} (hk : k < es.length) : ∃ q, getQ es ((order es).getD k 0) = some q := by
  have hk' : k < (order es).length := by rw [order_len]; exact hk
  have : (order es).getD k 0 ∈ es.map QQ.id := by
    have e : (order es).getD k 0 = (order es)[k] := by simp [hk']
    rw [e]
    exact (List.mergeSort_perm (es.map QQ.id) _).mem_iff.1 (List.getElem_mem hk')
  obtain ⟨q, hq, e⟩ := List.mem_map.1 this
  unfold getQ
  cases hf : es.find? (fun q => decide ((order es).getD k 0 = q.id)) with
  | some q => exact ⟨q, rfl⟩
  | none => have := List.find?_eq_none.1 hf q hq; simp [e] at this

theorem cnt_succ {es : List QQ} {k : Nat} (hk : k < es.length) {q : QQ} (hq : getQ es ((order es).getD k 0) = some q) : cnt es (k + 1) = cnt es k + if q.fol then 1 else 0 := by
  have hk' : k < (order es).length := by rw [order_len]; exact hk
  have e : (order es).getD k 0 = (order es)[k] := by simp [hk']
  unfold cnt
  rw [List.take_succ_eq_append_getElem hk', List.filter_append, List.length_append]
  congr 1
  rw [← e]
  simp only [List.filter_cons, followsB, hq, Option.map_some, Option.getD_some]
  cases q.fol <;> rfl

theorem cnt_all {es : List QQ} (hids : (es.map QQ.id).Nodup) : cnt es es.length = nfol es := by
  unfold cnt
  rw [List.take_of_length_le (by rw [order_len]; exact Nat.le_refl _)]
  have hp : ((order es).filter fun i => followsB es i).length = ((es.map QQ.id).filter fun i => followsB es i).length :=
    ((List.mergeSort_perm (es.map QQ.id) _).filter _).length_eq
  rw [hp, List.filter_map, List.length_map]
  unfold nfol
  congr 1
  refine List.filter_congr fun q hq => ?_
  simp only [Function.comp, followsB]
  cases hg : getQ es q.id with
  | none => unfold getQ at hg; have := List.find?_eq_none.1 hg q hq; simp at this
  | some x => rw [getQ_uniq hg hids hq rfl]; rfl

theorem cnt_le (es : List QQ) (k : Nat) : cnt es k ≤ es.length := by
  unfold cnt
  exact Nat.le_trans (List.length_filter_le _ _) (by have := List.length_take_le k (order es); rw [List.length_take, order_len]; omega)

/-- Subscribe's loop: its counter, and the queues. -/
def SubC (n0 : Nat) (es : List QQ) (k : Nat) (D : BSet) (W : World) : Prop :=
  (∀ b, D b ↔ b = n0 ∨ b ∈ qBlocks es) ∧ Blk W n0 (.cells #[.int .i64 (cnt es k)] 3) ∧ QueAt W es

theorem supp_SubC (n0 : Nat) (es : List QQ) (k : Nat) : Supp (SubC n0 es k) :=
  ⟨fun D W ⟨h1, h2, h3⟩ b hb => by
      rcases (h1 b).1 hb with rfl | h
      · exact h2.lt
      · exact h3.lt h,
   fun D W W' ⟨h1, h2, h3⟩ hs hb => ⟨h1, (hb _ ((h1 _).2 (.inl rfl))).trans h2, h3.same hs (fun b h => hb b ((h1 b).2 (.inr h)))⟩⟩

/-- The k-th queue's address. -/
def qv (es : List QQ) (k : Nat) : Value := ((getQ es ((order es).getD k 0)).map fun q => Value.pointer (some ⟨q.bq, 0, none⟩)).getD (.pointer none)
def subAct (bf n0 : Nat) (k0 : Int) (es : List QQ) (k : Nat) : Act :=
  { tmps := #[.pointer (some ⟨bf, 0, none⟩), .int .i64 k0, undef, undef, .bool false, .pointer (some ⟨n0, 0, none⟩), undef, qv es k, .pointer (some ⟨bf, 0, none⟩), .func (.func 23) #[] #[.pointer (some ⟨n0 + 1, 0, none⟩)], .int .i64 ((order es).getD k 0), qv es k, undef, undef, undef, undef, undef, undef, undef, undef, undef, undef, undef, undef, undef, undef, undef, undef, undef, undef, undef, undef, undef, undef, undef, undef, undef, undef, undef, undef, undef, undef, undef, undef, undef, undef, undef], defers := [] }

def subA (l : List AQ) (k : Int) : List AQ :=
  match getA l k with
  | some (_, ns) => setA l k (true, ns)
  | none => l ++ [(k, true, [])]

theorem nfol_set_one {es : List QQ} {q : QQ} (hq : q ∈ es) (hids : (es.map QQ.id).Nodup) (f : QQ → QQ) : nfol (setQ es q.id f) ≤ nfol es + 1 := by
  obtain ⟨l1, l2, he, hs, _⟩ := setQ_split hq hids
  rw [hs f]
  conv => rhs; rw [he]
  simp only [nfol, List.filter_append, List.filter_cons, List.length_append]
  cases (f q).fol <;> cases q.fol <;> simp <;> omega

theorem entPut_new (es : List QQ) (k : Int) (h : getQ es k = none) (v : Value) (n : Nat) : entPut (es.map QQ.ent) k v n = es.map QQ.ent ++ [(k, v, n)] := by
  induction es with
  | nil => rfl
  | cons q r ih =>
    unfold getQ at h ih
    rw [List.find?_cons] at h
    by_cases hk : k = q.id
    · simp [hk] at h
    · simp only [hk, decide_false] at h
      simp [entPut, QQ.ent, hk, ih h]

/-- A queue more. -/
theorem FeedAt.add {w : World} {bf bm : Nat} {room : Int} {clock : Nat} {es : List QQ} (h : FeedAt w bf bm room clock es) {k : Int} (hk : -9223372036854775808 ≤ k ∧ k ≤ 9223372036854775807) (hg : getQ es k = none) (hfew : es.length < 1000) :
    FeedAt ((w.alloc (.cells #[.bool false, .slice none 0 0] 56)).putObj bm (.map (EI.arr (entPut (es.map QQ.ent) k (.pointer (some ⟨w.heap.size, 0, none⟩)) clock)) (clock + 1))) bf bm room (clock + 1) (es ++ [⟨k, w.heap.size, clock, false, .slice none 0 0, []⟩]) := by
  have e0 : Ext w (w.alloc (.cells #[.bool false, .slice none 0 0] 56)) := (Keeps.refl _ w).alloc _
  have hA := h.keeps e0 (fun _ _ g => g)
  have hne : ∀ b ∈ fBlocks bf bm es, b ≠ w.heap.size := fun b hb e => by have := h.lt hb; omega
  have hml := h.map.lt
  have hb : fBlocks bf bm (es ++ [⟨k, w.heap.size, clock, false, .slice none 0 0, []⟩]) = fBlocks bf bm es ++ [w.heap.size] := by
    simp [fBlocks, QQ.own, Value.ownBlock]
  refine ⟨hA.feed.put_other h.ne_fm _, ?_, ?_, ?_, ?_, ?_, ?_, ?_, h.lo, h.hi, ?_, ?_, ?_, ?_, ?_⟩
  · rw [entPut_new es k hg]
    have := hA.map.put_same (.map (EI.arr (es.map QQ.ent ++ [(k, .pointer (some ⟨w.heap.size, 0, none⟩), clock)])) (clock + 1))
    simpa [QQ.ent] using this
  · intro q hq
    rcases List.mem_append.1 hq with hq | hq
    · exact (hA.que q hq).put_other (fun e => h.ne_mq hq e.symm) _
    · simp only [List.mem_singleton] at hq; subst hq
      exact (Blk.new w _).put_other (by omega) _
  · intro q hq
    rcases List.mem_append.1 hq with hq | hq
    · exact World.ownsRow.kept (hA.row q hq) (grownBy_putObj' _ bm _) (.inr (h.ne_ms hq))
    · simp only [List.mem_singleton] at hq; subst hq
      exact World.ownsRow_nil _ _ _ _
  · rw [hb, List.nodup_append]
    exact ⟨h.nodup, by simp, fun a ha b hb e => by simp at hb; subst hb; exact hne a ha e⟩
  · rw [List.map_append, List.nodup_append]
    refine ⟨h.ids, by simp, fun a ha b hb e => ?_⟩
    simp at hb; subst hb; subst e
    obtain ⟨q, hq, e⟩ := List.mem_map.1 ha
    have := List.find?_eq_none.1 hg q hq
    simp [e] at this
  · intro q hq
    rcases List.mem_append.1 hq with hq | hq
    · exact Nat.lt_succ_of_lt (h.born q hq)
    · simp only [List.mem_singleton] at hq; subst hq; exact Nat.lt_succ_self _
  · rw [List.map_append, List.nodup_append]
    refine ⟨h.stamps, by simp, fun a ha b hb e => ?_⟩
    simp at hb; subst hb; subst e
    obtain ⟨q, hq, e⟩ := List.mem_map.1 ha
    have := h.born q hq; omega
  · intro q hq
    rcases List.mem_append.1 hq with hq | hq
    · exact h.full q hq
    · simp only [List.mem_singleton] at hq; subst hq; have := h.lo; simp; omega
  · simp only [nfol, List.filter_append, List.length_append]; have := h.fols; simpa [nfol] using this
  · intro q hq
    rcases List.mem_append.1 hq with hq | hq
    · exact h.wf q hq
    · simp only [List.mem_singleton] at hq; subst hq; exact hk
  · simp; omega
  · intro q hq n hn
    rcases List.mem_append.1 hq with hq | hq
    · exact h.chg q hq n hn
    · simp only [List.mem_singleton] at hq; subst hq; simp at hn

def SubPost (w : World) (bf bm : Nat) (room : Int) (es : List QQ) (k : Int) (e : Ending) (w' : World) : Prop :=
  ∃ ok : Bool, e = .returned (.bool ok) ∧ ok = (!followsB es k && decide (nfol es < 4)) ∧ Next w w' bf bm room es (if ok then subA (view es) k else view es)

section
variable {w : World} {bf bm : Nat} {room : Int} {clock : Nat} {es : List QQ} (h : FeedAt w bf bm room clock es)
include h

set_option maxHeartbeats 2000000 in
theorem subscribe_c (k : Int) (hk : -9223372036854775808 ≤ k ∧ k ≤ 9223372036854775807) (hfew : es.length < 1000) : Calls Try.prog 15 #[.pointer (some ⟨bf, 0, none⟩), .int .i64 k] w (SubPost w bf bm room es k) := by
  rw [← callsIn_wide (n := 0)]
  refine callsIn_of_wp_marks Try.func15 rfl trivial ?_ rfl
  simp only [Try.ntmps15, List.size_toArray, List.length_cons, List.length_nil, Nat.reduceAdd, Nat.reduceSub, Array.replicate_succ, Array.replicate_zero, List.push_toArray, List.append_toArray, List.nil_append, List.cons_append]
  have H0 := Lib.hid h
  clear h
  gi_wp2_with fail
  refine ⟨trivial, rfl, CallsIn.mono (callsIn_wide.2 (inOrder_c _ _ _ rfl)) ?_⟩
  rintro e w' ⟨rfl, rfl⟩
  gi_wp2_with fail
  obtain ⟨W0, hW0⟩ : ∃ W0, W0 = (w.alloc (.cells #[.int .i64 0] 3)).alloc (.cells #[.pointer (some ⟨bf, 0, none⟩)] 24) := ⟨_, rfl⟩
  have E0 : Ext w W0 := by rw [hW0]; exact ((Keeps.refl _ w).alloc _).alloc _
  have BN : Blk W0 w.heap.size (.cells #[.int .i64 0] 3) := by rw [hW0]; exact (Blk.new w _).alloc _
  have BX : Blk W0 (w.heap.size + 1) (.cells #[.pointer (some ⟨bf, 0, none⟩)] 24) := by
    rw [hW0]; have := Blk.new (w.alloc (.cells #[.int .i64 0] 3)) (.cells #[.pointer (some ⟨bf, 0, none⟩)] 24); rwa [World.size_alloc] at this
  have S0 : W0.heap.size = w.heap.size + 2 := by rw [hW0]; simp
  rw [← hW0]
  have F0 := H0.out.keeps E0 (fun _ _ g => g)
  have hfl := H0.out.feed.lt
  have hml := H0.out.map.lt
  have hqb : ∀ b ∈ qBlocks es, b < w.heap.size ∧ b ≠ bf ∧ b ≠ bm := fun b hb => by
    have h1 : b ∈ fBlocks bf bm es := List.mem_cons_of_mem _ (List.mem_cons_of_mem _ hb)
    have h2 := H0.out.nodup
    simp only [fBlocks, List.nodup_cons, List.mem_cons, not_or] at h2
    exact ⟨H0.out.lt h1, fun e => h2.1.2 (e ▸ hb), fun e => h2.2.1 (e ▸ hb)⟩
  have hml' : (es.map QQ.ent).length = es.length := by simp
  refine wp_range (N := (es.map QQ.ent).length) (gf := 23) (lb := #[.pointer (some ⟨w.heap.size + 1, 0, none⟩)]) rfl Try.enter23
    (inOrder_it (w.heap.size + 1) bf bm room clock (es.map QQ.ent) (by omega) (by rw [hml']; exact H0.out.few) (by rw [List.map_map]; exact H0.out.stamps) (by rw [List.map_map]; exact H0.out.ids)
      (fun x hx => by obtain ⟨q, hq, e⟩ := List.mem_map.1 hx; rw [← e]; exact H0.out.born q hq))
    (supp_InO _ _ _ _ _ _) (fun k => by rw [ioVals_es]; rfl) (SubC w.heap.size es) (fun _ _ _ _ => False) (supp_SubC w.heap.size es) (fun _ _ => ⟨fun _ _ h => h.elim, fun _ _ _ h => h.elim⟩)
    (fun b => b = w.heap.size ∨ b ∈ qBlocks es) (fun b => b = w.heap.size + 1 ∨ b = bf ∨ b = bm) ⟨fun b => Iff.rfl, BN, fun q hq => ⟨F0.que q hq, F0.row q hq⟩⟩ ⟨fun b => Iff.rfl, BX, F0.feed, F0.map⟩
    (fun b hb ho => by
      rcases hb with rfl | hb
      · omega
      · have := hqb b hb; rcases ho with rfl | rfl | rfl <;> omega)
    (subAct bf w.heap.size k es) ?hassign ?hbody ?hdone ?hstop (fun _ => supp_InO _ _ _ _ _ _)
  case hassign =>
    intro l j W K hK
    rw [ioVals_es, fold2]
    change Code.wpIn (Fence.wide.inRound l) 0 _ _ _ { tmps := #[.pointer (some ⟨bf, 0, none⟩), .int .i64 k, undef, undef, .bool false, .pointer (some ⟨w.heap.size, 0, none⟩), undef, undef, .pointer (some ⟨bf, 0, none⟩), .func (.func 23) #[] #[.pointer (some ⟨w.heap.size + 1, 0, none⟩)], .int .i64 ((order es).getD j 0), qv es j, undef, undef, undef, undef, undef, undef, undef, undef, undef, undef, undef, undef, undef, undef, undef, undef, undef, undef, undef, undef, undef, undef, undef, undef, undef, undef, undef, undef, undef, undef, undef, undef, undef, undef, undef], defers := [] } W
    gi_wp2
    exact hK
  case hbody =>
    intro l j D W hj hc hsz
    rw [hml'] at hj
    obtain ⟨q, hq⟩ := order_mem hj
    obtain ⟨hD, hN, hQ⟩ := hc
    obtain ⟨hm, _⟩ := getQ_mem hq
    have hqv : qv es j = .pointer (some ⟨q.bq, 0, none⟩) := by unfold qv; rw [hq]; rfl
    have c0 := (hQ q hm).1.cell (i := 0) (v := .bool q.fol) (by rfl)
    have n0 := hN.cell (i := 0) (v := .int .i64 (cnt es j)) (by rfl)
    have nf : W.frozen? ⟨w.heap.size, 0, none⟩ = false := hN.frozen
    have hcs := cnt_succ hj hq
    have hcl := cnt_le es j
    have hfew := H0.out.few
    have HQ := Lib.hid hQ
    have HN := Lib.hid hN
    have HD := Lib.hid hD
    have HCS := Lib.hid hcs
    unfold subAct
    rw [hqv]
    have hqn : ¬ w.heap.size ∈ qBlocks es := fun h => by have := hqb _ h; omega
    have HQB := Lib.hid hqb
    clear hq hqv hQ hN hD hcs hqb hml'
    cases hf : q.fol with
    | false =>
      rw [hf] at c0
      rw [hf] at HCS
      clear hf
      gi_wp2
      refine ⟨D, Keeps.refl _ _, fun b hb => .inl hb, HD.out, ?_, HQ.out⟩
      rw [HCS.out]; exact HN.out
    | true =>
      rw [hf] at c0
      rw [hf] at HCS
      clear hf
      gi_wp2
      have k1 := Keeps.oneSet W ⟨w.heap.size, 0, none⟩ (.int .i64 (↑(cnt es j) + 1))
      refine ⟨D, k1.mono (fun x _ e => (HD.out x).2 (.inl e)), fun b hb => .inl hb, HD.out, ?_, ?_⟩
      · rw [HCS.out]
        have := HN.out.set_same (i := 0) (.int .i64 (↑(cnt es j) + 1))
        simpa using this
      · exact HQ.out.same k1.size (fun b hb => k1.block b (HQ.out.lt hb) (fun e => hqn ((show b = w.heap.size from e) ▸ hb)))
  case hdone =>
    intro D O W hkp hc hs hdj hDf hOf hbd hDn hOn
    rw [S0] at hbd hDn hOn ⊢
    obtain ⟨_, hN, hQ⟩ := hc
    obtain ⟨_, _, hF, hM⟩ := hs
    rw [hml', cnt_all H0.out.ids] at hN
    have FW : FeedAt W bf bm room clock es := ⟨hF, hM, fun q hq => (hQ q hq).1, fun q hq => (hQ q hq).2, H0.out.nodup, H0.out.ids, H0.out.born, H0.out.stamps, H0.out.lo, H0.out.hi, H0.out.full, H0.out.fols, H0.out.wf, H0.out.few, H0.out.chg⟩
    have KW : Keeps (fOwn bf bm es) w W := (E0.mono (fun _ _ g => g.elim)).trans' hkp (fun x hx hh => by
      rcases hh with (rfl | hh) | hh
      · omega
      · exact List.mem_cons_of_mem _ (List.mem_cons_of_mem _ hh)
      · exact hh.elim)
    have hWs : w.heap.size + 2 ≤ W.heap.size := by have := hkp.size; omega
    -- the mark's block, at the end
    have hfin : ∀ (w9 : World) (ck : Nat) (es9 : List QQ) (A : List AQ), Blk w9 (w.heap.size + 2) (.deferred (some [])) → FeedAt w9 bf bm room ck es9 → view es9 = A → Keeps (fOwn bf bm es) w w9 → (∀ b ∈ fBlocks bf bm es9, b ∈ fBlocks bf bm es ∨ W.heap.size ≤ b) →
        Next w (w9.putObj (w.heap.size + 2) (.deferred none)) bf bm room es A := by
      intro w9 ck es9 A hb9 f9 v9 k9 b9
      have hk := Keeps.onePut w9 (w.heap.size + 2) (.deferred none)
      have hWlt := hbd.lt
      refine ⟨ck, es9, f9.keeps hk (fun b hb e => ?_), v9, k9.trans' hk (fun x hx e => by omega), fun b hb => (b9 b hb).imp id (fun e => by omega)⟩
      rcases b9 b hb with h | h
      · have := H0.out.lt h; omega
      · omega
    have HFIN := Lib.hid hfin
    have hfols := FW.fols
    have n0 := hN.cell (i := 0) (v := .int .i64 (nfol es)) (by rfl)
    have HFW := Lib.hid FW
    have HKW := Lib.hid KW
    have HBD := Lib.hid hbd
    have FOL := Lib.hid (follows_c FW k)
    have hl := FW.look k
    have h1 := FW.c1
    clear hN hQ hF hM FW KW hbd hfin hkp hqb F0 BN BX E0 hW0
    cases hfo : followsB es k with
    | true =>
      have HFO := Lib.hid hfo
      rw [hfo] at FOL
      clear hfo hl h1
      gi_wp2_with fail
      refine ⟨trivial, rfl, CallsIn.mono (callsIn_wide.2 FOL.out) ?_⟩
      rintro e w' ⟨rfl, rfl⟩
      gi_wp2
      refine ⟨by simp, .inl ⟨_, _, rfl, run_takeDeferred HBD.out, ?_⟩⟩
      exact ⟨_, results_tmp rfl _ _ _, false, rfl, by rw [HFO.out]; rfl, HFIN.out _ clock es _ HBD.out HFW.out rfl HKW.out (fun b hb => .inl hb)⟩
    | false =>
      have HFO := Lib.hid hfo
      rw [hfo] at FOL
      clear hfo
      by_cases hn : nfol es < 4
      · have h3 : ((nfol es : Int) ≤ 3) := by omega
        have hge : decide ((4 : Int) ≤ (nfol es : Int)) = false := by simp; omega
        have HOK := Lib.hid (show (true : Bool) = (!followsB es k && decide (nfol es < 4)) by rw [HFO.out]; simp [hn])
        have hmm := @run_makeMap Try.prog
        have HH0 := Lib.hid H0.out
        cases hg : getQ es k with
        | some q =>
          obtain ⟨hm, hqk⟩ := getQ_mem hg
          rw [hg] at hl
          simp only [Option.map_some, Option.getD_some] at hl
          have FW := HFW.out
          have c0 := (FW.que q hm).cell (i := 0) (v := .bool q.fol) (by rfl)
          have f0 : W.frozen? ⟨q.bq, 0, none⟩ = false := (FW.que q hm).frozen
          have kq := Keeps.oneSet W ⟨q.bq, 0, none⟩ (.bool true)
          have hu := FW.upd hm (fol' := true) (sl' := q.sl) (ns' := q.ns) (kq.mono fun x _ e => .inl e) ((FW.que q hm).set_same (i := 0) (.bool true)) (row_keeps (FW.row q hm) kq (fun b hb e => FW.ne_qs hm (hb.trans (congrArg some e)))) (.inl rfl) (FW.full q hm) (FW.chg q hm) (Nat.le_trans (nfol_set_one hm FW.ids _) (by omega))
          have hqd : w.heap.size + 2 ≠ q.bq := by have := (H0.out.que q hm).lt; omega
          have hqo : fOwn bf bm es q.bq := by simp only [fOwn, fBlocks, List.mem_cons, List.mem_flatMap, QQ.own]; exact .inr (.inr ⟨q, hm, .inl rfl⟩)
          have HV := Lib.hid (show view (setQ es q.id (fun x => { x with fol := true, sl := q.sl, ns := q.ns })) = subA (view es) k by
            unfold subA; rw [getA_view, hg]; simp only [Option.map_some]; rw [hqk]
            exact setA_view es k _ _ fun x hx hxk => by simp [QQ.abs, hxk])
          have HKS := Lib.hid (HKW.out.trans' kq (fun x hx e => by have e' : x = q.bq := e; subst e'; exact hqo))
          have HU := Lib.hid hu
          have HB9 := Lib.hid (HBD.out.set_other (p := ⟨q.bq, 0, none⟩) hqd (.bool true))
          clear hg hm hqk FW kq hu hqo hn
          gi_wp2_with fail
          refine ⟨trivial, rfl, CallsIn.mono (callsIn_wide.2 FOL.out) ?_⟩
          rintro e w' ⟨rfl, rfl⟩
          gi_wp2
          refine ⟨by simp, .inl ⟨_, _, rfl, run_takeDeferred HB9.out, ?_⟩⟩
          exact ⟨_, results_tmp rfl _ _ _, true, rfl, HOK.out, HFIN.out _ clock _ _ HB9.out HU.out.1 HV.out HKS.out HU.out.2⟩
        | none =>
          rw [hg] at hl
          simp only [Option.map_none, Option.getD_none] at hl
          have FW := HFW.out
          have eA : Ext W (W.alloc (.cells #[.bool false, .slice none 0 0] 56)) := (Keeps.refl _ W).alloc _
          have hmu0 := run_mapUpdate EI Try.uMap (FW.keeps eA (fun _ _ g => g)).map k (.pointer (some ⟨W.heap.size, 0, none⟩))
          rw [entGet_ent, hg] at hmu0
          obtain ⟨W2, hW2⟩ : ∃ W2, W2 = (W.alloc (.cells #[.bool false, .slice none 0 0] 56)).putObj bm (.map (EI.arr (entPut (es.map QQ.ent) k (.pointer (some ⟨W.heap.size, 0, none⟩)) clock)) (clock + 1)) := ⟨_, rfl⟩
          have hmu : (Instr.mapUpdate 46 (.map (some bm)) (.int .i64 k) (.pointer (some ⟨W.heap.size, 0, none⟩))).run Try.prog (W.alloc (.cells #[.bool false, .slice none 0 0] 56)) = .ok () W2 := by rw [hW2]; exact hmu0
          have F2 := FW.add hk hg hfew
          rw [← hW2] at F2
          have hg2 : getQ (es ++ [⟨k, W.heap.size, clock, false, .slice none 0 0, []⟩]) k = some ⟨k, W.heap.size, clock, false, .slice none 0 0, []⟩ := by
            unfold getQ at hg ⊢; rw [List.find?_append, hg]; simp
          have hm2 := (getQ_mem hg2).1
          have hl2 := F2.look k
          rw [hg2] at hl2
          simp only [Option.map_some, Option.getD_some] at hl2
          have h12 := F2.c1
          have c0 := (F2.que _ hm2).cell (i := 0) (v := .bool false) (by rfl)
          have f0 : W2.frozen? ⟨W.heap.size, 0, none⟩ = false := (F2.que _ hm2).frozen
          have kq := Keeps.oneSet W2 ⟨W.heap.size, 0, none⟩ (.bool true)
          have hu := F2.upd hm2 (fol' := true) (sl' := .slice none 0 0) (ns' := []) (kq.mono fun x _ e => .inl e) ((F2.que _ hm2).set_same (i := 0) (.bool true)) (World.ownsRow_nil _ _ _ _) (.inl rfl) (F2.full _ hm2) (by simp) (Nat.le_trans (nfol_set_one hm2 F2.ids _) (by simp [nfol] at h3 ⊢; omega))
          have hV : view (setQ (es ++ [⟨k, W.heap.size, clock, false, .slice none 0 0, []⟩]) k (fun x => { x with fol := true, sl := .slice none 0 0, ns := [] })) = subA (view es) k := by
            unfold subA; rw [getA_view, hg]; simp only [Option.map_none]
            rw [setA_view _ k _ (true, []) fun x hx hxk => by simp [QQ.abs, hxk]]
            simp only [view, List.map_append, setA, List.map_append, List.map_cons, List.map_nil, QQ.abs, if_true]
            congr 1
            conv => rhs; rw [← List.map_id (es.map QQ.abs)]
            refine List.map_congr_left fun x hx => ?_
            obtain ⟨q, hq, e⟩ := List.mem_map.1 hx
            have hne : k ≠ q.id := by
              unfold getQ at hg
              have := List.find?_eq_none.1 hg q hq
              simpa using this
            rw [← e]; simp [QQ.abs, hne]
          have hs2 : W2.heap.size = W.heap.size + 1 := by rw [hW2]; simp
          have hsz2 := Lib.hid hs2
          have k2 : Keeps (fun b => b = bm) W W2 := by rw [hW2]; exact ((Keeps.refl (fun b => b = bm) W).alloc _).putObj (r := bm) (.inl (Eq.refl bm)) _
          have HKS := Lib.hid ((HKW.out.trans' k2 (fun x _ e => by subst e; simp [fOwn, fBlocks])).trans' kq (fun x hx e => by have e' : x = W.heap.size := e; omega))
          have hWd := HBD.out.lt
          have HB9 := Lib.hid ((HBD.out.keeps k2 (fun e => by omega)).set_other (p := ⟨W.heap.size, 0, none⟩) (by show w.heap.size + 2 ≠ W.heap.size; omega) (.bool true))
          have HU := Lib.hid hu.1
          have HUB := Lib.hid (show ∀ b ∈ fBlocks bf bm (setQ (es ++ [⟨k, W.heap.size, clock, false, .slice none 0 0, []⟩]) k (fun x => { x with fol := true, sl := .slice none 0 0, ns := [] })), b ∈ fBlocks bf bm es ∨ W.heap.size ≤ b from fun b hb => by
            rcases hu.2 b hb with h | h
            · have hb' : fBlocks bf bm (es ++ [⟨k, W.heap.size, clock, false, .slice none 0 0, []⟩]) = fBlocks bf bm es ++ [W.heap.size] := by simp [fBlocks, QQ.own, Value.ownBlock]
              rw [hb'] at h
              rcases List.mem_append.1 h with h | h
              · exact .inl h
              · simp at h; exact .inr (by omega)
            · exact .inr (by omega))
          have HV := Lib.hid hV
          clear hg FW hmu0 hW2 F2 hg2 hm2 kq hu hV hs2 k2 hn eA
          gi_wp2_with fail
          refine ⟨trivial, rfl, CallsIn.mono (callsIn_wide.2 FOL.out) ?_⟩
          rintro e w' ⟨rfl, rfl⟩
          gi_wp2
          refine ⟨by simp, .inl ⟨_, _, rfl, run_takeDeferred HB9.out, ?_⟩⟩
          exact ⟨_, results_tmp rfl _ _ _, true, rfl, HOK.out, HFIN.out _ (clock + 1) _ _ HB9.out HU.out HV.out HKS.out HUB.out⟩
      · have h4 : nfol es = 4 := by omega
        have HH4 := Lib.hid h4
        rw [h4] at n0
        have hge : decide ((4 : Int) ≤ 4) = true := by decide
        clear h4 hn hl h1
        gi_wp2_with fail
        refine ⟨trivial, rfl, CallsIn.mono (callsIn_wide.2 FOL.out) ?_⟩
        rintro e w' ⟨rfl, rfl⟩
        gi_wp2
        refine ⟨by simp, .inl ⟨_, _, rfl, run_takeDeferred HBD.out, ?_⟩⟩
        exact ⟨_, results_tmp rfl _ _ _, false, rfl, by rw [HFO.out, HH4.out]; rfl, HFIN.out _ clock es _ HBD.out HFW.out rfl HKW.out (fun b hb => .inl hb)⟩
  case hstop => intro c j D O W _ _ _ hc; exact hc.elim
end
end Go.Proofs.Ytdempgabidbjfaa
