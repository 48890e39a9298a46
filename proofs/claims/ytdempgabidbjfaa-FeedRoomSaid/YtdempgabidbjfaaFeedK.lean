/- The feed: Push. -/
import Derived.Test.YtdempgabidbjfaaFeedJ
import Derived.BigRegionIn
import Derived.RegionIn
import Derived.Sort.QuietIn
namespace Go.Proofs.Ytdempgabidbjfaa
open Go Go.RowKit
set_option linter.unusedSimpArgs false
set_option linter.unusedVariables false

attribute [local go_sem] Oper.semAt_some

def pushQ (room : Int) (n : NtcA) (x : AQ) : AQ :=
  if x.2.1 then
    (if (x.2.2.length : Int) < room then (x.1, true, x.2.2 ++ [(x.1, n.2.1, n.2.2.1, n.2.2.2)])
     else if (x.2.2.length : Int) = room then (x.1, false, x.2.2 ++ [(x.1, 11, n.2.2.1, [])]) else (x.1, false, x.2.2))
  else x
def lagsQ (room : Int) (x : AQ) : Bool := x.2.1 && decide (room ≤ (x.2.2.length : Int))
def pushK (room : Int) (n : NtcA) (A : List AQ) (ids : List Int) : List AQ := A.map fun x => if x.1 ∈ ids then pushQ room n x else x
def pushA (room : Int) (n : NtcA) (A : List AQ) : List AQ := A.map (pushQ room n)
def lagI (room : Int) (A : List AQ) (i : Int) : Bool := ((getA A i).map fun v => lagsQ room (i, v)).getD false
def lagged (room : Int) (A : List AQ) (ids : List Int) : List Int := ids.filter (lagI room A)

theorem pushQ_id (room : Int) (n : NtcA) (x : AQ) : (pushQ room n x).1 = x.1 := by
  unfold pushQ; split
  · split
    · rfl
    · split <;> rfl
  · rfl

theorem getA_uniq {A : List AQ} (hn : (A.map (·.1)).Nodup) {x : AQ} (hx : x ∈ A) : getA A x.1 = some x.2 := by
  unfold getA
  cases hf : A.find? (fun y => decide (x.1 = y.1)) with
  | none => have := List.find?_eq_none.1 hf x hx; simp at this
  | some y =>
    have h1 := List.find?_some hf
    have h2 := List.mem_of_find?_eq_some hf
    have := nodup_map_inj hn hx h2 (by simpa using h1)
    rw [this]; rfl

theorem getA_pushK (room : Int) (n : NtcA) (A : List AQ) (ids : List Int) (k : Int) (hk : k ∉ ids) : getA (pushK room n A ids) k = getA A k := by
  unfold getA pushK
  rw [List.find?_map]
  have : (fun x : AQ => decide (k = x.1)) ∘ (fun x => if x.1 ∈ ids then pushQ room n x else x) = fun x : AQ => decide (k = x.1) := by
    funext x; simp only [Function.comp]; split <;> simp [pushQ_id]
  rw [this]
  cases hf : A.find? (fun x => decide (k = x.1)) with
  | none => rfl
  | some x =>
    have h1 : k = x.1 := by simpa using List.find?_some hf
    simp [← h1, hk]

theorem pushK_succ {room : Int} {n : NtcA} {A : List AQ} (hn : (A.map (·.1)).Nodup) {ids : List Int} {k : Int} {v : Bool × List NtcA} (hv : getA A k = some v) (hk : k ∉ ids) :
    pushK room n A (ids ++ [k]) = setA (pushK room n A ids) k (pushQ room n (k, v)).2 := by
  unfold pushK setA
  rw [List.map_map]
  refine List.map_congr_left fun x hx => ?_
  simp only [Function.comp, List.mem_append, List.mem_singleton]
  by_cases h1 : x.1 ∈ ids
  · have hne : k ≠ x.1 := fun e => hk (e ▸ h1)
    simp [h1, pushQ_id, hne]
  · by_cases h2 : x.1 = k
    · have := getA_uniq hn hx
      rw [h2, hv] at this
      have e : x = (k, v) := by
        cases x with
        | mk a b => simp only at h2 this; subst h2; simp at this; rw [this]
      subst e
      simp only [hk, or_true, if_true, if_false]
      have := pushQ_id room n (k, v)
      exact Prod.ext this rfl
    · have hne : ¬ k = x.1 := fun e => h2 e.symm
      simp [h1, h2, hne]

theorem pushK_nil (room : Int) (n : NtcA) (A : List AQ) : pushK room n A [] = A := by simp [pushK]
theorem pushK_all (room : Int) (n : NtcA) (A : List AQ) (ids : List Int) (h : ∀ x ∈ A, x.1 ∈ ids) : pushK room n A ids = pushA room n A :=
  List.map_congr_left fun x hx => by rw [if_pos (h x hx)]

/-- What of a feed's state rests on no memory. -/
structure StatOk (bf bm : Nat) (room : Int) (clock : Nat) (es : List QQ) : Prop where
  nodup : (fBlocks bf bm es).Nodup
  ids : (es.map QQ.id).Nodup
  born : ∀ q ∈ es, q.st < clock
  stamps : (es.map QQ.st).Nodup
  lo : 1 ≤ room
  hi : room ≤ 4
  full : ∀ q ∈ es, (q.ns.length : Int) ≤ room + 1
  fols : nfol es ≤ 4
  wf : ∀ q ∈ es, (-9223372036854775808 ≤ q.id ∧ q.id ≤ 9223372036854775807)
  few : es.length ≤ 1000
  chg : ∀ q ∈ es, ∀ n ∈ q.ns, n.chg.oneCell' = true

theorem FeedAt.stat {w : World} {bf bm : Nat} {room : Int} {clock : Nat} {es : List QQ} (h : FeedAt w bf bm room clock es) : StatOk bf bm room clock es :=
  ⟨h.nodup, h.ids, h.born, h.stamps, h.lo, h.hi, h.full, h.fols, h.wf, h.few, h.chg⟩
theorem FeedAt.ques {w : World} {bf bm : Nat} {room : Int} {clock : Nat} {es : List QQ} (h : FeedAt w bf bm room clock es) : QueAt w es := fun q hq => ⟨h.que q hq, h.row q hq⟩
theorem FeedAt.of {w : World} {bf bm : Nat} {room : Int} {clock : Nat} {es : List QQ} (h1 : Blk w bf (.cells #[.int .i64 room, .map (some bm)] 48)) (h2 : Blk w bm (.map (EI.arr (es.map QQ.ent)) clock)) (h3 : QueAt w es) (h : StatOk bf bm room clock es) : FeedAt w bf bm room clock es :=
  ⟨h1, h2, fun q hq => (h3 q hq).1, fun q hq => (h3 q hq).2, h.nodup, h.ids, h.born, h.stamps, h.lo, h.hi, h.full, h.fols, h.wf, h.few, h.chg⟩

/-- Push's loop. -/
structure PushSt (bf bm n2 base : Nat) (room : Int) (clock : Nat) (na : NtcA) (es : List QQ) (k : Nat) (D : BSet) (W : World) (es' : List QQ) (lv : Value) : Prop where
  iff : ∀ b, D b ↔ b = n2 ∨ b ∈ qBlocks es' ∨ lv.ownBlock = some b
  box : Blk W n2 (.cells #[lv] 27)
  row : W.ownsRow 0 3 1 lv (lagged room (view es) ((order es).take k)).length (ints (lagged room (view es) ((order es).take k)))
  que : QueAt W es'
  stat : StatOk bf bm room clock es'
  ent : es'.map QQ.ent = es.map QQ.ent
  lvb : ∀ b, lv.ownBlock = some b → base ≤ b ∧ b ∉ qBlocks es' ∧ b ≠ n2
  fresh : ∀ b ∈ qBlocks es', b ∈ qBlocks es ∨ base ≤ b
  n2q : n2 ∉ qBlocks es'
  vw : view es' = pushK room na (view es) ((order es).take k)

def PushC (bf bm n2 base : Nat) (room : Int) (clock : Nat) (na : NtcA) (es : List QQ) (k : Nat) (D : BSet) (W : World) : Prop :=
  ∃ es' lv, PushSt bf bm n2 base room clock na es k D W es' lv

theorem supp_PushC (bf bm n2 base : Nat) (room : Int) (clock : Nat) (na : NtcA) (es : List QQ) (k : Nat) : Supp (PushC bf bm n2 base room clock na es k) :=
  ⟨fun D W ⟨es', lv, h⟩ b hb => by
      rcases (h.iff b).1 hb with rfl | hb | hb
      · exact h.box.lt
      · exact h.que.lt hb
      · exact (World.ownsRow.lt h.row b hb).2,
   fun D W W' ⟨es', lv, h⟩ hs hb => ⟨es', lv, h.iff, (hb _ ((h.iff _).2 (.inl rfl))).trans h.box, by
      obtain ⟨h1, h2 | ⟨g, cap, cur, e, h3, h4, h5⟩⟩ := h.row
      · exact ⟨h1, .inl h2⟩
      · exact ⟨h1, .inr ⟨g, cap, cur, e, h3, (hb g ((h.iff _).2 (.inr (.inr (by rw [e]; rfl))))).trans h4, h5⟩⟩,
      h.que.same hs (fun b h' => hb b ((h.iff b).2 (.inr (.inl h')))), h.stat, h.ent, h.lvb, h.fresh, h.n2q, h.vw⟩⟩

theorem setA_same {A : List AQ} (hn : (A.map (·.1)).Nodup) {k : Int} {v : Bool × List NtcA} (hv : getA A k = some v) : setA A k v = A := by
  unfold setA
  conv => rhs; rw [← List.map_id A]
  refine List.map_congr_left fun x hx => ?_
  by_cases h : k = x.1
  · have := getA_uniq hn hx
    rw [← h, hv] at this
    simp only [h, if_true, id]
    cases x with
    | mk a b => simp at this; simp [this]
  · simp [h]

theorem view_ids (es : List QQ) : (view es).map (·.1) = es.map QQ.id := by simp only [view, List.map_map]; rfl

theorem order_nodup {es : List QQ} (h : (es.map QQ.id).Nodup) : (order es).Nodup := (List.mergeSort_perm (es.map QQ.id) _).nodup_iff.2 h

theorem order_take {es : List QQ} {j : Nat} (hj : j < es.length) : (order es).take (j + 1) = (order es).take j ++ [(order es).getD j 0] := by
  have hj' : j < (order es).length := by rw [order_len]; exact hj
  rw [List.take_succ_eq_append_getElem hj']; simp [hj']
theorem order_fresh {es : List QQ} (h : (es.map QQ.id).Nodup) {j : Nat} (hj : j < es.length) : (order es).getD j 0 ∉ (order es).take j := by
  have h1 := (order_nodup h).sublist (List.take_sublist (j + 1) (order es))
  rw [order_take hj, List.nodup_append] at h1
  exact fun hm => h1.2.2 _ hm _ (by simp) rfl

theorem ent_get {es es' : List QQ} (h : es'.map QQ.ent = es.map QQ.ent) {k : Int} {q : QQ} (hq : getQ es k = some q) : ∃ q', getQ es' k = some q' ∧ q'.bq = q.bq := by
  have h1 := entGet_ent es' k
  rw [h, entGet_ent, hq] at h1
  cases hg : getQ es' k with
  | none => rw [hg] at h1; simp at h1
  | some q' => rw [hg] at h1; simp at h1; exact ⟨q', rfl, h1.symm⟩

/-- One more of the queues is done. -/
theorem push_next {bf bm n2 base j : Nat} {room : Int} {clock : Nat} {na : NtcA} {es es' : List QQ} {D : BSet} {W W' : World} {lv lv' : Value} (st : PushSt bf bm n2 base room clock na es j D W es' lv)
    (hids : (es.map QQ.id).Nodup) (hj : j < es.length) {q : QQ} (hq : getQ es' ((order es).getD j 0) = some q) {fol2 : Bool} {sl2 : Value} {ns2 : List Ntc}
    (FU : FeedAt W' bf bm room clock (setQ es' q.id (fun x => { x with fol := fol2, sl := sl2, ns := ns2 })))
    (FB : ∀ b ∈ fBlocks bf bm (setQ es' q.id (fun x => { x with fol := fol2, sl := sl2, ns := ns2 })), b ∈ fBlocks bf bm es' ∨ W.heap.size ≤ b)
    (hp : (pushQ room na ((order es).getD j 0, q.fol, q.ns.map Ntc.abs)).2 = (fol2, ns2.map Ntc.abs)) (kW : Keeps D W W') (hbW : base ≤ W.heap.size)
    (box : Blk W' n2 (.cells #[lv'] 27)) (row : W'.ownsRow 0 3 1 lv' (lagged room (view es) ((order es).take (j + 1))).length (ints (lagged room (view es) ((order es).take (j + 1)))))
    (lb : ∀ b, lv'.ownBlock = some b → lv.ownBlock = some b ∨ W.heap.size ≤ b) (lq : ∀ b, lv'.ownBlock = some b → b ∉ qBlocks (setQ es' q.id (fun x => { x with fol := fol2, sl := sl2, ns := ns2 }))) :
    ∃ D' : BSet, Keeps D W W' ∧ (∀ b, D' b → D b ∨ W.heap.size ≤ b) ∧ PushC bf bm n2 base room clock na es (j + 1) D' W' := by
  obtain ⟨hm, hk⟩ := getQ_mem hq
  have hq1 : ∀ b ∈ qBlocks (setQ es' q.id (fun x => { x with fol := fol2, sl := sl2, ns := ns2 })), b ∈ qBlocks es' ∨ W.heap.size ≤ b := by
    intro b hb
    have hb2 : b ∈ fBlocks bf bm (setQ es' q.id (fun x => { x with fol := fol2, sl := sl2, ns := ns2 })) := List.mem_cons_of_mem _ (List.mem_cons_of_mem _ hb)
    have hnd := FU.nodup
    simp only [fBlocks, List.nodup_cons, List.mem_cons, not_or] at hnd
    rcases FB b hb2 with h | h
    · simp only [fBlocks, List.mem_cons] at h
      rcases h with rfl | rfl | h
      · exact absurd hb hnd.1.2
      · exact absurd hb hnd.2.1
      · exact .inl h
    · exact .inr h
  have hn2 := st.box.lt
  refine ⟨fun b => b = n2 ∨ b ∈ qBlocks (setQ es' q.id (fun x => { x with fol := fol2, sl := sl2, ns := ns2 })) ∨ lv'.ownBlock = some b, kW, fun b hb => ?_, _, lv', fun b => Iff.rfl, box, row, FU.ques, FU.stat, ?_, fun b hb => ⟨?_, lq b hb, ?_⟩, fun b hb => ?_, fun hb => ?_, ?_⟩
  · rcases hb with rfl | hb | hb
    · exact .inl ((st.iff _).2 (.inl rfl))
    · exact (hq1 b hb).imp (fun h => (st.iff _).2 (.inr (.inl h))) id
    · exact (lb b hb).imp (fun h => (st.iff _).2 (.inr (.inr h))) id
  · rw [← st.ent]
    simp only [setQ, List.map_map]
    refine List.map_congr_left fun x _ => ?_
    simp only [Function.comp]; split <;> rfl
  · rcases lb b hb with h | h
    · exact (st.lvb b h).1
    · omega
  · rcases lb b hb with h | h
    · exact (st.lvb b h).2.2
    · omega
  · rcases hq1 b hb with h | h
    · exact st.fresh b h
    · exact .inr (by omega)
  · rcases hq1 _ hb with h | h
    · exact st.n2q h
    · omega
  · have hfr := order_fresh hids hj
    have hv : getA (view es) ((order es).getD j 0) = some (q.fol, q.ns.map Ntc.abs) := by
      have h1 := getA_view es' ((order es).getD j 0)
      rw [st.vw, getA_pushK _ _ _ _ _ hfr, hq] at h1
      exact h1
    rw [order_take hj, pushK_succ (by rw [view_ids]; exact hids) hv hfr, hp, ← st.vw, hk]
    exact setA_view es' _ _ _ fun x hx hxk => by simp [QQ.abs, hxk]

theorem lagged_succ {room : Int} {es : List QQ} {j : Nat} (hj : j < es.length) : lagged room (view es) ((order es).take (j + 1)) = lagged room (view es) ((order es).take j) ++ if lagI room (view es) ((order es).getD j 0) then [(order es).getD j 0] else [] := by
  rw [order_take hj]
  unfold lagged
  rw [List.filter_append]
  congr 1
  simp only [List.filter_cons, List.filter_nil]

theorem nfol_set_le {es : List QQ} {q : QQ} (hq : q ∈ es) (hids : (es.map QQ.id).Nodup) (f : QQ → QQ) (hf : (f q).fol = true → q.fol = true) : nfol (setQ es q.id f) ≤ nfol es := by
  obtain ⟨l1, l2, he, hs, _⟩ := setQ_split hq hids
  rw [hs f]
  conv => rhs; rw [he]
  simp only [nfol, List.filter_append, List.filter_cons, List.length_append]
  cases h1 : (f q).fol with
  | true => rw [hf h1]; simp
  | false => cases q.fol <;> simp

theorem lagI_of {room : Int} {es : List QQ} {k : Int} {f : Bool} {ns : List NtcA} (h : getA (view es) k = some (f, ns)) : lagI room (view es) k = (f && decide (room ≤ (ns.length : Int))) := by
  unfold lagI; rw [h]; rfl

theorem owns_keeps {F : BSet} {w w' : World} {B : Nat} {e : TypeId} {size : Nat} {v : Value} {n : Nat} {xs : List Value} (h : w.ownsRow B e size v n xs) (k : Keeps F w w') (hF : ∀ b, v.ownBlock = some b → ¬ F b) : w'.ownsRow B e size v n xs := by
  obtain ⟨h1, h2 | ⟨g, cap, cur, rfl, h3, h4, h5⟩⟩ := h
  · exact ⟨h1, .inl h2⟩
  · exact ⟨h1, .inr ⟨g, cap, cur, rfl, h3, (show Blk w g _ from h4).keeps k (hF g rfl), h5⟩⟩

def pushAct (bf n0 : Nat) (n : Ntc) (es : List QQ) (k : Nat) : Act :=
  { tmps := #[.pointer (some ⟨bf, 0, none⟩), .agg n.cells.toArray, .pointer (some ⟨n0, 0, none⟩), .pointer (some ⟨n0 + 1, 0, none⟩), .slice none 0 0, .pointer (some ⟨n0 + 1 + 1, 0, none⟩), .int .i64 ((order es).getD k 0), qv es k, .pointer (some ⟨bf, 0, none⟩), .func (.func 23) #[] #[.pointer (some ⟨n0 + 1 + 1 + 1, 0, none⟩)], .int .i64 ((order es).getD k 0), qv es k, undef, undef, undef, undef, undef, undef, undef, undef, undef, undef, undef, undef, undef, undef, undef, undef, undef, undef, undef, undef, undef, undef, undef, undef, undef, undef, undef, undef, undef, undef, undef, undef, undef, undef, undef, undef, undef, undef, undef, undef, undef, undef, undef, undef, undef], defers := [] }

/-- What Push leaves. -/
def PushPost (w : World) (bf bm : Nat) (room : Int) (es : List QQ) (na : NtcA) (e : Ending) (w' : World) : Prop :=
  ∃ ck es' lv, e = .returned lv ∧ FeedAt w' bf bm room ck es' ∧ view es' = pushA room na (view es) ∧ Keeps (fOwn bf bm es) w w' ∧ (∀ b ∈ fBlocks bf bm es', b ∈ fBlocks bf bm es ∨ w.heap.size ≤ b) ∧
    w'.ownsRow 0 3 1 lv (lagged room (view es) (order es)).length (ints (lagged room (view es) (order es))) ∧ (∀ b, lv.ownBlock = some b → w.heap.size ≤ b ∧ b ∉ fBlocks bf bm es')

section
variable {w : World} {bf bm : Nat} {room : Int} {clock : Nat} {es : List QQ} (h : FeedAt w bf bm room clock es)
include h

set_option maxHeartbeats 2000000 in
theorem push_c (n : Ntc) (hn : ChgOk w n.chg) (hnb : ∀ b, n.chg.ownBlock = some b → b ∉ fBlocks bf bm es) :
    Calls Try.prog 16 #[.pointer (some ⟨bf, 0, none⟩), .agg n.cells.toArray] w (PushPost w bf bm room es n.abs) := by
  have H0 := Lib.hid h
  have HC := Lib.hid hn
  have HCB := Lib.hid hnb
  clear h hn hnb
  rw [← callsIn_wide (n := 0)]
  refine callsIn_of_wp_marks Try.func16 rfl trivial ?_ rfl
  simp only [Try.ntmps16, List.size_toArray, List.length_cons, List.length_nil, Nat.reduceAdd, Nat.reduceSub, Array.replicate_succ, Array.replicate_zero, List.push_toArray, List.append_toArray, List.nil_append, List.cons_append]
  gi_wp2_with fail
  refine ⟨trivial, rfl, CallsIn.mono (callsIn_wide.2 (inOrder_c _ _ _ rfl)) ?_⟩
  rintro e w' ⟨rfl, rfl⟩
  gi_wp2_with fail
  obtain ⟨W0, hW0⟩ : ∃ W0, W0 = (((w.alloc (.cells #[.pointer (some ⟨bf, 0, none⟩)] 24)).alloc (.cells n.cells.toArray 31)).alloc (.cells #[.slice none 0 0] 27)).alloc (.cells #[.pointer (some ⟨bf, 0, none⟩)] 24) := ⟨_, rfl⟩
  have E0 : Ext w W0 := by rw [hW0]; exact ((((Keeps.refl _ w).alloc _).alloc _).alloc _).alloc _
  have B0 : Blk W0 w.heap.size (.cells #[.pointer (some ⟨bf, 0, none⟩)] 24) := by rw [hW0]; exact (((Blk.new w _).alloc _).alloc _).alloc _
  have B1 : Blk W0 (w.heap.size + 1) (.cells n.cells.toArray 31) := by
    rw [hW0]; have := Blk.new (w.alloc (.cells #[.pointer (some ⟨bf, 0, none⟩)] 24)) (.cells n.cells.toArray 31); rw [World.size_alloc] at this; exact (this.alloc _).alloc _
  have B2 : Blk W0 (w.heap.size + 1 + 1) (.cells #[.slice none 0 0] 27) := by
    rw [hW0]; have := Blk.new ((w.alloc (.cells #[.pointer (some ⟨bf, 0, none⟩)] 24)).alloc (.cells n.cells.toArray 31)) (.cells #[.slice none 0 0] 27); rw [World.size_alloc, World.size_alloc] at this; exact this.alloc _
  have BX : Blk W0 (w.heap.size + 1 + 1 + 1) (.cells #[.pointer (some ⟨bf, 0, none⟩)] 24) := by
    rw [hW0]; have := Blk.new (((w.alloc (.cells #[.pointer (some ⟨bf, 0, none⟩)] 24)).alloc (.cells n.cells.toArray 31)).alloc (.cells #[.slice none 0 0] 27)) (.cells #[.pointer (some ⟨bf, 0, none⟩)] 24); rw [World.size_alloc, World.size_alloc, World.size_alloc] at this; exact this
  have S0 : W0.heap.size = w.heap.size + 4 := by rw [hW0]; simp
  rw [← hW0]
  have F0 := H0.out.keeps E0 (fun _ _ g => g)
  have hfl := H0.out.feed.lt
  have hml := H0.out.map.lt
  have hfew := H0.out.few
  have hml' : (es.map QQ.ent).length = es.length := by simp
  have hqb : ∀ b ∈ qBlocks es, b < w.heap.size ∧ b ≠ bf ∧ b ≠ bm := fun b hb => by
    have h1 : b ∈ fBlocks bf bm es := List.mem_cons_of_mem _ (List.mem_cons_of_mem _ hb)
    have h2 := H0.out.nodup
    simp only [fBlocks, List.nodup_cons, List.mem_cons, not_or] at h2
    exact ⟨H0.out.lt h1, fun e => h2.1.2 (e ▸ hb), fun e => h2.2.1 (e ▸ hb)⟩
  refine wp_range (N := (es.map QQ.ent).length) (gf := 23) (lb := #[.pointer (some ⟨w.heap.size + 1 + 1 + 1, 0, none⟩)]) rfl Try.enter23
    (inOrder_it (w.heap.size + 1 + 1 + 1) bf bm room clock (es.map QQ.ent) (by omega) (by rw [hml']; exact H0.out.few) (by rw [List.map_map]; exact H0.out.stamps) (by rw [List.map_map]; exact H0.out.ids)
      (fun x hx => by obtain ⟨q, hq, e⟩ := List.mem_map.1 hx; rw [← e]; exact H0.out.born q hq))
    (supp_InO _ _ _ _ _ _) (fun k => by rw [ioVals_es]; rfl) (PushC bf bm (w.heap.size + 1 + 1) w.heap.size room clock n.abs es) (fun _ _ _ _ => False) (supp_PushC bf bm (w.heap.size + 1 + 1) w.heap.size room clock n.abs es) (fun _ _ => ⟨fun _ _ h => h.elim, fun _ _ _ h => h.elim⟩)
    (fun b => b = w.heap.size + 1 + 1 ∨ b ∈ qBlocks es) (fun b => b = w.heap.size + 1 + 1 + 1 ∨ b = bf ∨ b = bm)
    ⟨es, .slice none 0 0, fun b => by simp [Value.ownBlock], B2, World.ownsRow_nil _ _ _ _, F0.ques, F0.stat, rfl, fun b hb => (by simp [Value.ownBlock] at hb), fun b hb => .inl hb, fun hb => (by have := (hqb _ hb).1; omega), (by rw [List.take_zero, pushK_nil])⟩
    ⟨fun b => Iff.rfl, BX, F0.feed, F0.map⟩
    (fun b hb ho => by
      rcases hb with rfl | hb
      · omega
      · have := hqb b hb; rcases ho with rfl | rfl | rfl <;> omega)
    (pushAct bf w.heap.size n es) ?hassign ?hbody ?hdone ?hstop (fun _ => supp_InO _ _ _ _ _ _)
  case hassign =>
    intro l j W K hK
    rw [ioVals_es, fold2]
    change Code.wpIn (Fence.wide.inRound l) 0 _ _ _ { tmps := #[.pointer (some ⟨bf, 0, none⟩), .agg n.cells.toArray, .pointer (some ⟨w.heap.size, 0, none⟩), .pointer (some ⟨w.heap.size + 1, 0, none⟩), .slice none 0 0, .pointer (some ⟨w.heap.size + 1 + 1, 0, none⟩), undef, undef, .pointer (some ⟨bf, 0, none⟩), .func (.func 23) #[] #[.pointer (some ⟨w.heap.size + 1 + 1 + 1, 0, none⟩)], .int .i64 ((order es).getD j 0), qv es j, undef, undef, undef, undef, undef, undef, undef, undef, undef, undef, undef, undef, undef, undef, undef, undef, undef, undef, undef, undef, undef, undef, undef, undef, undef, undef, undef, undef, undef, undef, undef, undef, undef, undef, undef, undef, undef, undef, undef, undef, undef, undef, undef, undef, undef], defers := [] } W
    gi_wp2
    exact hK
  case hbody =>
    intro l j D W hj hc hkk
    rw [hml'] at hj
    obtain ⟨es', lv, st⟩ := hc
    obtain ⟨q0, hq0⟩ := order_mem hj
    obtain ⟨q, hq, hqb0⟩ := ent_get st.ent hq0
    obtain ⟨hm, hqk⟩ := getQ_mem hq
    have hqv : qv es j = .pointer (some ⟨q.bq, 0, none⟩) := by unfold qv; rw [hq0, hqb0]; rfl
    have nD : ∀ b, b < W0.heap.size → b ≠ w.heap.size + 1 + 1 → b ∉ qBlocks es → ¬ ((b = w.heap.size + 1 + 1 ∨ b ∈ qBlocks es) ∨ False) := fun b _ h1 h2 h => by
      rcases h with (h | h) | h
      · exact h1 h
      · exact h2 h
      · exact h
    have nq : ∀ b, w.heap.size ≤ b → b ∉ qBlocks es := fun b hb h => by have := (hqb b h).1; omega
    have N0 := B0.keeps hkk (nD _ (by omega) (by omega) (nq _ (by omega)))
    have N1 := B1.keeps hkk (nD _ (by omega) (by omega) (nq _ (by omega)))
    have NF := F0.feed.keeps hkk (nD _ (by omega) (by omega) (fun h => (hqb _ h).2.1 rfl))
    have NM := F0.map.keeps hkk (nD _ (by omega) (by omega) (fun h => (hqb _ h).2.2 rfl))
    have CH : ChgOk W n.chg := by
      rcases HC.out with e | ⟨b, c0, c1, c2, e, hb⟩
      · exact .inl e
      · have := HCB.out b (by rw [e]; rfl)
        exact .inr ⟨b, c0, c1, c2, e, (hb.keeps E0 (fun g => g)).keeps hkk (nD _ (by have := hb.lt; omega) (by have := hb.lt; omega) (fun h => this (List.mem_cons_of_mem _ (List.mem_cons_of_mem _ h))))⟩
    have F : FeedAt W bf bm room clock es' := FeedAt.of NF (by rw [st.ent]; exact NM) st.que st.stat
    have hWs := hkk.size
    have hids := H0.out.ids
    unfold pushAct
    rw [hqv]
    have c0 := (F.que q hm).cell (i := 0) (v := .bool q.fol) (by rfl)
    have hV : getA (view es) ((order es).getD j 0) = some (q.fol, q.ns.map Ntc.abs) := by
      have h1 := getA_view es' ((order es).getD j 0)
      rw [st.vw, getA_pushK _ _ _ _ _ (order_fresh hids hj), hq] at h1
      exact h1
    cases hf : q.fol with
    | false =>
      rw [hf] at c0 hV
      have hlag : lagI room (view es) ((order es).getD j 0) = false := by unfold lagI; rw [hV]; rfl
      have hfin : PushC bf bm (w.heap.size + 1 + 1) w.heap.size room clock n.abs es (j + 1) D W := by
        refine ⟨es', lv, st.iff, st.box, ?_, st.que, st.stat, st.ent, st.lvb, st.fresh, st.n2q, ?_⟩
        · rw [lagged_succ hj, hlag]; simpa using st.row
        · rw [order_take hj, pushK_succ (by rw [view_ids]; exact hids) hV (order_fresh hids hj), ← st.vw]
          symm
          refine setA_same (by rw [view_ids]; exact F.ids) ?_
          rw [getA_view, hq]; simp [pushQ, hf]
      have HH := Lib.hid hfin
      clear hfin hlag hV F CH NM NF N1 N0 nq nD hqv hq hqb0 hq0 st hkk hf F0 E0 B0 B1 B2 BX hW0 hqb hml'
      gi_wp2
      exact ⟨D, Keeps.refl _ _, fun b hb => .inl hb, HH.out⟩
    | true =>
      rw [hf] at c0 hV
      obtain ⟨a, cap, hsl⟩ := (F.row q hm).slice
      have c1 := (F.que q hm).cell (i := 1) (v := .slice a q.ns.length cap) (by rw [← hsl]; rfl)
      have d0 := N0.cell (i := 0) (by rfl)
      have d1 := NF.cell (i := 0) (v := .int .i64 room) (by rfl)
      have hLn : (q.ns.length : Int) ≤ room + 1 := F.full q hm
      have hlo := F.lo
      have hhi := F.hi
      have HV := Lib.hid hV
      have HQ := Lib.hid hq
      have ST := Lib.hid st
      have FF := Lib.hid F
      have HF := Lib.hid hf
      have HM := Lib.hid hm
      have HSL := Lib.hid hsl
      have HN1 := Lib.hid N1
      have HCH := Lib.hid CH
      have HJ := Lib.hid hj
      have HQK := Lib.hid hqk
      have HQB := Lib.hid hqb
      clear hV hq st F hf hm hsl N1 CH hj hqk hqb hq0 hqb0 hqv nD nq NF NM hkk F0 E0 B0 B1 B2 BX hW0 hml'
      obtain ⟨L, hL⟩ : ∃ L, L = q.ns.length := ⟨_, rfl⟩
      rw [← hL] at c1 hLn
      have HL := Lib.hid hL
      clear hL
      have hids' := Lib.hid hids
      have HN0 := Lib.hid N0
      clear hids N0
      by_cases hlt : (L : Int) < room
      · gi_wp2_with fail
        refine wpIn_region_quiet_r (by kernel_rfl) (by kernel_rfl) rfl ?_
        repeat (gi_big_quiet_step (fail))
        refine wpQuietIn_nil ?_
        rintro _ ⟨nq, rfl⟩
        obtain ⟨WA, hWA⟩ : ∃ WA, WA = W.drewN nq := ⟨_, rfl⟩
        have EW : Ext W WA := by rw [hWA]; exact ⟨rfl, rfl, rfl, Nat.le_refl _, fun _ _ _ => rfl⟩
        have SW : WA.heap.size = W.heap.size := by rw [hWA]; rfl
        rw [← hWA]
        have N1' := HN1.out.keeps EW (fun g => g)
        have m0 := N1'.cell (i := 0) (v := .int .i64 n.ses) (by rfl)
        have m1 := N1'.cell (i := 1) (v := .int .i64 n.err) (by rfl)
        have m2 := N1'.cell (i := 2) (v := .int .i64 n.blk) (by rfl)
        have m3 := N1'.cell (i := 3) (v := str n.root) (by rfl)
        have m4 := N1'.cell (i := 4) (v := n.chg) (by rfl)
        have eP : Ext W (WA.alloc (.cells n.cells.toArray 31)) := EW.alloc _
        have FP := FF.out.keeps eP (fun _ _ g => g)
        have CP : ChgOk (WA.alloc (.cells n.cells.toArray 31)) n.chg := by
          rcases HCH.out with e | ⟨b, x0, x1, x2, e, hb⟩
          · exact .inl e
          · exact .inr ⟨b, x0, x1, x2, e, hb.keeps eP (fun g => g)⟩
        have hput := Lib.hid (put_c (WA.alloc (.cells n.cells.toArray 31)) q.bq WA.heap.size true q.sl q.ns ((order es).getD j 0) n (by have := FP.que q HM.out; rw [HF.out] at this; exact this) (FP.row q HM.out) (FF.out.ne_qs HM.out) (by have := FF.out.full q HM.out; omega) (Blk.new WA _) CP)
        have HFP := Lib.hid FP
        have HEP := Lib.hid eP
        have hsP : (WA.alloc (.cells n.cells.toArray 31)).heap.size = W.heap.size + 1 := by simp [SW]
        have HSP := Lib.hid hsP
        clear hWA EW SW N1' eP FP CP hsP
        gi_wp2_with fail
        refine ⟨trivial, rfl, CallsIn.mono (callsIn_wide.2 hput.out) ?_⟩
        rintro e w2 ⟨rfl, sl', chg', kp, bq', rw', oc', ow'⟩
        have hfin : ∃ D' : BSet, Keeps D W w2 ∧ (∀ b, D' b → D b ∨ W.heap.size ≤ b) ∧ PushC bf bm (w.heap.size + 1 + 1) w.heap.size room clock n.abs es (j + 1) D' w2 := by
          have hm := HM.out
          have hq1 := HF.out
          have hFU := HFP.out.upd hm (fol' := true) (sl' := sl') (ns' := q.ns ++ [{ n with ses := (order es).getD j 0, chg := chg' }]) kp bq' rw' ow' (by have := HL.out; simp; omega)
            (fun x hx => by
              rcases List.mem_append.1 hx with hx | hx
              · exact HFP.out.chg q hm x hx
              · simp at hx; subst hx; exact oc')
            (Nat.le_trans (nfol_set_le hm HFP.out.ids _ (fun _ => hq1)) HFP.out.fols)
          have kD : Keeps D W w2 := (HEP.out.mono (fun _ _ g => g.elim)).trans' kp (fun x hx e => (ST.out.iff x).2 (.inr (.inl (List.mem_flatMap.2 ⟨q, hm, by simp only [QQ.own, List.mem_cons, Option.mem_toList]; exact e⟩))))
          have hsP := HSP.out
          have FB : ∀ b ∈ fBlocks bf bm (setQ es' q.id (fun x => { x with fol := true, sl := sl', ns := q.ns ++ [{ n with ses := (order es).getD j 0, chg := chg' }] })), b ∈ fBlocks bf bm es' ∨ W.heap.size ≤ b := fun b hb => (hFU.2 b hb).imp id (fun h => by omega)
          have hqm : ∀ b, b = q.bq ∨ q.sl.ownBlock = some b → b ∈ qBlocks es' := fun b hb => List.mem_flatMap.2 ⟨q, hm, by simp only [QQ.own, List.mem_cons, Option.mem_toList]; exact hb⟩
          have hlag : lagI room (view es) ((order es).getD j 0) = false := by
            rw [lagI_of HV.out]; simp; have := HL.out; omega
          have hlr := lagged_succ (room := room) HJ.out
          rw [hlag] at hlr
          simp only [Bool.false_eq_true, if_false, List.append_nil] at hlr
          refine push_next ST.out hids'.out HJ.out HQ.out hFU.1 FB ?_ kD (by omega) ?_ ?_ (fun b hb => .inl hb) (fun b hb hc => ?_)
          · have := HL.out
            simp only [pushQ, hq1, if_true, List.length_map]
            rw [if_pos (by omega)]
            simp [Ntc.abs]
          · exact (ST.out.box.keeps HEP.out (fun g => g)).keeps kp (fun e => ST.out.n2q (hqm _ e))
          · rw [hlr]
            exact owns_keeps (owns_keeps ST.out.row HEP.out (fun _ _ g => g)) kp (fun b hb e => (ST.out.lvb b hb).2.1 (hqm b e))
          · rcases FB b (List.mem_cons_of_mem _ (List.mem_cons_of_mem _ hc)) with h | h
            · have hnd := hFU.1.nodup
              simp only [fBlocks, List.nodup_cons, List.mem_cons, not_or] at hnd h
              rcases h with rfl | rfl | h
              · exact hnd.1.2 hc
              · exact hnd.2.1 hc
              · exact (ST.out.lvb b hb).2.1 h
            · have := (World.ownsRow.lt ST.out.row b hb).2; omega
        have HH := Lib.hid hfin
        clear hfin kp bq' rw' oc' ow'
        gi_wp2
        exact HH.out
      · by_cases heq : (L : Int) = room
        · have hnl : ((L : Int) == room) = true := by simpa using heq
          have hge : room ≤ (L : Int) := by omega
          have HEQ := Lib.hid heq
          clear heq
          gi_wp2_with fail
          refine wpIn_region_quiet_r (by kernel_rfl) (by kernel_rfl) rfl ?_
          repeat (gi_big_quiet_step (fail))
          refine wpQuietIn_nil ?_
          rintro _ ⟨nq, rfl⟩
          obtain ⟨WA, hWA⟩ : ∃ WA, WA = W.drewN nq := ⟨_, rfl⟩
          have EW : Ext W WA := by rw [hWA]; exact ⟨rfl, rfl, rfl, Nat.le_refl _, fun _ _ _ => rfl⟩
          have SW : WA.heap.size = W.heap.size := by rw [hWA]; rfl
          rw [← hWA]
          have FA := FF.out.keeps EW (fun _ _ g => g)
          have a1 := (FA.que q HM.out).cell (i := 1) (v := .slice a L cap) (by have := HSL.out; rw [← HL.out] at this; rw [← this]; rfl)
          have NA : Blk WA w.heap.size (.cells #[.pointer (some ⟨bf, 0, none⟩)] 24) := HN0.out.keeps EW (fun g => g)
          have a2 := NA.cell (i := 0) (by rfl)
          have a3 := FA.feed.cell (i := 0) (v := .int .i64 room) (by rfl)
          have HFA := Lib.hid FA
          have HEW := Lib.hid EW
          have HSW := Lib.hid SW
          clear hWA EW SW FA NA
          gi_wp2_with fail
          refine wpIn_region_quiet_r (by kernel_rfl) (by kernel_rfl) rfl ?_
          repeat (gi_big_quiet_step (fail))
          refine wpQuietIn_nil ?_
          rintro _ ⟨np, rfl⟩
          obtain ⟨WC, hWC⟩ : ∃ WC, WC = WA.drewN np := ⟨_, rfl⟩
          have EC : Ext W WC := HEW.out.trans (by rw [hWC]; exact ⟨rfl, rfl, rfl, Nat.le_refl _, fun _ _ _ => rfl⟩)
          have SC : WC.heap.size = W.heap.size := by rw [hWC]; exact HSW.out
          rw [← hWC]
          have N1' := HN1.out.keeps EC (fun g => g)
          have m2 := N1'.cell (i := 2) (v := .int .i64 n.blk) (by rfl)
          have eP : Ext W (WC.alloc (.cells #[.int .i64 0, .int .i64 11, .int .i64 n.blk, .string ⟨#[]⟩, .slice none 0 0] 31)) := EC.alloc _
          have FP := FF.out.keeps eP (fun _ _ g => g)
          have hput := Lib.hid (put_c (WC.alloc (.cells #[.int .i64 0, .int .i64 11, .int .i64 n.blk, .string ⟨#[]⟩, .slice none 0 0] 31)) q.bq WC.heap.size true q.sl q.ns ((order es).getD j 0) ⟨0, 11, n.blk, [], .slice none 0 0⟩ (by have := FP.que q HM.out; rw [HF.out] at this; exact this) (FP.row q HM.out) (FF.out.ne_qs HM.out) (by have := FF.out.full q HM.out; omega) (Blk.new WC _) (.inl rfl))
          have HFP := Lib.hid FP
          have HEP := Lib.hid eP
          have hsP : (WC.alloc (.cells #[.int .i64 0, .int .i64 11, .int .i64 n.blk, .string ⟨#[]⟩, .slice none 0 0] 31)).heap.size = W.heap.size + 1 := by simp [SC]
          have HSP := Lib.hid hsP
          clear hWC EC SC N1' eP FP hsP a1 a2 a3
          gi_wp2_with fail
          refine ⟨trivial, rfl, CallsIn.mono (callsIn_wide.2 hput.out) ?_⟩
          rintro e w2 ⟨rfl, sl', chg', kp, bq', rw', oc', ow'⟩
          have b0 := bq'.cell (i := 0) (v := .bool true) (by rfl)
          have bz : w2.frozen? ⟨q.bq, 0, none⟩ = false := bq'.frozen
          have hlt2 := bq'.lt
          have hqm : ∀ b, b = q.bq ∨ q.sl.ownBlock = some b → b ∈ qBlocks es' := fun b hb => List.mem_flatMap.2 ⟨q, HM.out, by simp only [QQ.own, List.mem_cons, Option.mem_toList]; exact hb⟩
          have k3 := Keeps.oneSet w2 ⟨q.bq, 0, none⟩ (.bool false)
          have kp3 := kp.trans' k3 (fun x _ e => .inl e)
          have slq : ∀ b, sl'.ownBlock = some b → b ≠ q.bq := fun b hb e => by
            rcases ow' with h | h
            · exact FF.out.ne_qs HM.out (h ▸ (hb.trans (congrArg some e)))
            · have h1 := h b hb; have h2 := (HFP.out.que q HM.out).lt; omega
          have hF3 := HFP.out.upd HM.out (fol' := false) (sl' := sl') (ns' := q.ns ++ [⟨(order es).getD j 0, 11, n.blk, [], chg'⟩]) kp3 (bq'.set_same (i := 0) (.bool false)) (row_keeps rw' k3 (fun b hb e => slq b hb e)) ow' (by have := HL.out; have := HEQ.out; simp; omega)
            (fun x hx => by
              rcases List.mem_append.1 hx with hx | hx
              · exact HFP.out.chg q HM.out x hx
              · simp at hx; subst hx; exact oc')
            (Nat.le_trans (nfol_set_le HM.out HFP.out.ids _ (fun e => by cases e)) HFP.out.fols)
          have HSB := Lib.hid (show W.heap.size ≤ w2.heap.size from by have := kp.size; have := HSP.out; omega)
          have F3 := Lib.hid hF3.1
          have FB3 := Lib.hid (show ∀ b ∈ fBlocks bf bm (setQ es' q.id (fun x => { x with fol := false, sl := sl', ns := q.ns ++ [⟨(order es).getD j 0, 11, n.blk, [], chg'⟩] })), b ∈ fBlocks bf bm es' ∨ W.heap.size ≤ b from fun b hb => (hF3.2 b hb).imp id (fun h => by have := HSP.out; omega))
          have KD3 := Lib.hid (show Keeps D W (w2.setCell ⟨q.bq, 0, none⟩ (.bool false)) from (HEP.out.mono (fun _ _ g => g.elim)).trans' kp3 (fun x _ e => (ST.out.iff x).2 (.inr (.inl (hqm x e)))))
          have hqn2 : w.heap.size + 1 + 1 ≠ q.bq := fun e => ST.out.n2q (hqm _ (.inl e))
          have N3 := Lib.hid (((ST.out.box.keeps HEP.out (fun g => g)).keeps kp (fun e => ST.out.n2q (hqm _ e))).set_other (p := ⟨q.bq, 0, none⟩) hqn2 (.bool false))
          have R3 := owns_keeps (owns_keeps (owns_keeps ST.out.row HEP.out (fun _ _ g => g)) kp (fun b hb e => (ST.out.lvb b hb).2.1 (hqm b e))) k3 (fun b hb e => (ST.out.lvb b hb).2.1 (hqm b (.inl e)))
          have HP3 := Lib.hid (show (pushQ room n.abs ((order es).getD j 0, q.fol, q.ns.map Ntc.abs)).2 = (false, (q.ns ++ [(⟨(order es).getD j 0, 11, n.blk, [], chg'⟩ : Ntc)]).map Ntc.abs) from by
            have := HL.out
            have := HEQ.out
            simp only [pushQ, HF.out, if_true, List.length_map]
            rw [if_neg (by omega), if_pos (by omega)]
            simp [Ntc.abs])
          clear k3 hF3 kp kp3 bq' rw' oc' ow' slq
          obtain ⟨ii, hii, hiz0, hiz1, hiz2⟩ := info_parts Try.infoI
          have HNW := Lib.hid (show ∀ jj u, ([Value.int .i64 ((order es).getD j 0)] : List Value)[jj]? = some u → ((w2.setCell ⟨q.bq, 0, none⟩ (.bool false)).alloc (.cells #[.int .i64 ((order es).getD j 0)] 3)).cell? ((⟨w2.heap.size, 0, none⟩ : Addr).add jj) = some u from by have := news_new (w2.setCell ⟨q.bq, 0, none⟩ (.bool false)) 3 [Value.int .i64 ((order es).getD j 0)]; rw [World.size_setCell] at this; exact this)
          have n3 := N3.out.cell (i := 0) (v := lv) (by rfl)
          have s3 := N3.out.lt
          have hlgl : (lagged room (view es) ((order es).take j)).length ≤ 1000 := by
            unfold lagged
            have h1 := List.length_filter_le (lagI room (view es)) ((order es).take j)
            have h2 : ((order es).take j).length ≤ es.length := by rw [List.length_take, order_len]; omega
            omega
          obtain ⟨lg, hlg⟩ : ∃ lg, lg = lagged room (view es) ((order es).take j) := ⟨_, rfl⟩
          rw [← hlg] at hlgl R3
          have R3 := Lib.hid R3
          have HLG := Lib.hid hlg
          clear hlg
          gi_wp2_with (gi_at_builtin; refine wpListIn_append_any _ rfl (.tmp 52) (.tmp 54) 27 rfl 3 ii _ 1 8 Try.uInts hii hiz0 hiz1 hiz2 rfl (by decide) lv lg.length (ints lg) rfl (World.ownsRow.alloc R3.out _) ⟨w2.heap.size, 0, none⟩ 1 1 [.int .i64 ((order es).getD j 0)] rfl rfl HNW.out (by simp [Value.oneCell']) (by unfold maxLen; omega) (by omega) ?_)
          intro lv' w4 r4 k4 o4
          obtain ⟨a4, c4, rfl⟩ := row_slice r4
          have hl3 : ∀ b, lv.ownBlock = some b → b < (w2.setCell ⟨q.bq, 0, none⟩ (.bool false)).heap.size := fun b hb => (World.ownsRow.lt R3.out b hb).2
          have N4 := (N3.out.alloc (.cells #[.int .i64 ((order es).getD j 0)] 3)).keeps k4 (fun e => (ST.out.lvb _ e).2.2 rfl)
          have n4 := N4.cell (i := 0) (v := lv) (by rfl)
          have f4 : w4.frozen? ⟨w.heap.size + 1 + 1, 0, none⟩ = false := N4.frozen
          have N4' := Lib.hid N4
          have R4 := Lib.hid r4
          have K4 := Lib.hid k4
          have O4 := Lib.hid o4
          clear N4 r4 k4 o4
          have hfin : ∃ D' : BSet, Keeps D W (w4.setCell ⟨w.heap.size + 1 + 1, 0, none⟩ (.slice a4 (lg.length + 1) c4)) ∧ (∀ b, D' b → D b ∨ W.heap.size ≤ b) ∧ PushC bf bm (w.heap.size + 1 + 1) w.heap.size room clock n.abs es (j + 1) D' (w4.setCell ⟨w.heap.size + 1 + 1, 0, none⟩ (.slice a4 (lg.length + 1) c4)) := by
            have hm := HM.out
            have hq1 := HF.out
            have k5 := Keeps.oneSet w4 ⟨w.heap.size + 1 + 1, 0, none⟩ (.slice a4 (lg.length + 1) c4)
            have k35 : Keeps (fun b => b = w.heap.size + 1 + 1 ∨ lv.ownBlock = some b) (w2.setCell ⟨q.bq, 0, none⟩ (.bool false)) (w4.setCell ⟨w.heap.size + 1 + 1, 0, none⟩ (.slice a4 (lg.length + 1) c4)) :=
              (((Keeps.refl (fun b => b = w.heap.size + 1 + 1 ∨ lv.ownBlock = some b) (w2.setCell ⟨q.bq, 0, none⟩ (.bool false))).alloc _).trans' K4.out (fun x _ e => .inr e)).trans' k5 (fun x _ e => .inl e)
            have hnotq : ∀ b ∈ fBlocks bf bm (setQ es' q.id (fun x => { x with fol := false, sl := sl', ns := q.ns ++ [⟨(order es).getD j 0, 11, n.blk, [], chg'⟩] })), b ∈ qBlocks es' ∨ W.heap.size ≤ b ∨ b = bf ∨ b = bm := fun b hb => by
              rcases FB3.out b hb with h | h
              · simp only [fBlocks, List.mem_cons] at h
                rcases h with h | h | h
                · exact .inr (.inr (.inl h))
                · exact .inr (.inr (.inr h))
                · exact .inl h
              · exact .inr (.inl h)
            have hsW : w.heap.size + 4 ≤ W.heap.size := by omega
            have hlvW : ∀ b, lv.ownBlock = some b → b < W.heap.size := fun b hb => (World.ownsRow.lt ST.out.row b hb).2
            have F5 := F3.out.keeps k35 (fun b hb hc => by
              rcases hc with hc | hc
              · rcases hnotq b hb with h | h | h | h
                · exact ST.out.n2q (hc ▸ h)
                · omega
                · omega
                · omega
              · have h0 := ST.out.lvb b hc
                have h9 := hlvW b hc
                rcases hnotq b hb with h | h | h | h
                · exact h0.2.1 h
                · omega
                · omega
                · omega)
            have hlag : lagI room (view es) ((order es).getD j 0) = true := by
              rw [lagI_of HV.out]; simp; have := HL.out; omega
            have hlr := lagged_succ (room := room) HJ.out
            rw [hlag, ← HLG.out] at hlr
            simp only [if_true] at hlr
            refine push_next (lv' := .slice a4 (lg.length + 1) c4) ST.out hids'.out HJ.out HQ.out F5 FB3.out HP3.out (KD3.out.trans' k35 (fun x _ e => (ST.out.iff x).2 (e.imp id .inr))) (by omega) (N4'.out.set_same (i := 0) _) ?_ (fun b hb => ?_) (fun b hb hc => ?_)
            · rw [hlr]
              have e1 : (lg ++ [(order es).getD j 0]).length = lg.length + 1 := by simp
              have e2 : ints (lg ++ [(order es).getD j 0]) = ints lg ++ [.int .i64 ((order es).getD j 0)] := by simp [ints]
              rw [e1, e2]
              refine owns_keeps R4.out k5 (fun b hb e => ?_)
              have e' : b = w.heap.size + 1 + 1 := e
              rcases O4.out with h | h
              · exact (ST.out.lvb b (h ▸ hb)).2.2 e'
              · have h9 := h b hb; (try simp at h9); have h8 := HSB.out; omega
            · rcases O4.out with h | h
              · exact .inl (h ▸ hb)
              · exact .inr (by have h9 := h b hb; (try simp at h9); have h8 := HSB.out; omega)
            · have hb3 : b < w2.heap.size := by have h7 := F3.out.lt (List.mem_cons_of_mem bf (List.mem_cons_of_mem bm hc)); rw [World.size_setCell] at h7; exact h7
              rcases O4.out with h | h
              · have hb' : lv.ownBlock = some b := h ▸ hb
                have h0 := ST.out.lvb b hb'
                have h9 := hlvW b hb'
                rcases hnotq b (List.mem_cons_of_mem _ (List.mem_cons_of_mem _ hc)) with h | h | h | h
                · exact h0.2.1 h
                · omega
                · omega
                · omega
              · have h9 := h b hb; (try simp at h9); have h8 := HSB.out; omega
          have HH := Lib.hid hfin
          clear hfin
          gi_wp2
          exact HH.out
        · have hgt : room < (L : Int) := by omega
          have hne : ((L : Int) == room) = false := by simpa using heq
          gi_wp2_with fail
          refine wpIn_region_quiet_r (by kernel_rfl) (by kernel_rfl) rfl ?_
          repeat (gi_big_quiet_step (fail))
          refine wpQuietIn_nil ?_
          rintro _ ⟨nq, rfl⟩
          obtain ⟨WA, hWA⟩ : ∃ WA, WA = W.drewN nq := ⟨_, rfl⟩
          have EW : Ext W WA := by rw [hWA]; exact ⟨rfl, rfl, rfl, Nat.le_refl _, fun _ _ _ => rfl⟩
          have SW : WA.heap.size = W.heap.size := by rw [hWA]; rfl
          rw [← hWA]
          have FA := FF.out.keeps EW (fun _ _ g => g)
          have a1 := (FA.que q HM.out).cell (i := 1) (v := .slice a L cap) (by have := HSL.out; rw [← HL.out] at this; rw [← this]; rfl)
          have NA : Blk WA w.heap.size (.cells #[.pointer (some ⟨bf, 0, none⟩)] 24) := HN0.out.keeps EW (fun g => g)
          have a2 := NA.cell (i := 0) (by rfl)
          have a3 := FA.feed.cell (i := 0) (v := .int .i64 room) (by rfl)
          have HFA := Lib.hid FA
          have HEW := Lib.hid EW
          have HSW := Lib.hid SW
          clear hWA EW SW FA NA
          gi_wp2_with fail
          refine wpIn_region_quiet_r (by kernel_rfl) (by kernel_rfl) rfl ?_
          repeat (gi_big_quiet_step (fail))
          refine wpQuietIn_nil ?_
          rintro _ ⟨np, rfl⟩
          obtain ⟨WB, hWB⟩ : ∃ WB, WB = WA.drewN np := ⟨_, rfl⟩
          have EB : Ext W WB := HEW.out.trans (by rw [hWB]; exact ⟨rfl, rfl, rfl, Nat.le_refl _, fun _ _ _ => rfl⟩)
          have SB : WB.heap.size = W.heap.size := by rw [hWB]; exact HSW.out
          rw [← hWB]
          have FB0 := FF.out.keeps EB (fun _ _ g => g)
          have b0 := (FB0.que q HM.out).cell (i := 0) (v := .bool q.fol) (by rfl)
          have bz : WB.frozen? ⟨q.bq, 0, none⟩ = false := (FB0.que q HM.out).frozen
          have HFB := Lib.hid FB0
          have HEB := Lib.hid EB
          have HSB := Lib.hid SB
          clear hWB EB SB FB0 a1 a2 a3
          have k3 := Keeps.oneSet WB ⟨q.bq, 0, none⟩ (.bool false)
          have hqb' : q.bq ∈ qBlocks es' := List.mem_flatMap.2 ⟨q, HM.out, by simp [QQ.own]⟩
          have hF3 := HFB.out.upd HM.out (fol' := false) (sl' := q.sl) (ns' := q.ns) (k3.mono fun x _ e => .inl e) ((HFB.out.que q HM.out).set_same (i := 0) (.bool false)) (row_keeps (HFB.out.row q HM.out) k3 (fun b hb e => HFB.out.ne_qs HM.out (hb.trans (congrArg some e)))) (.inl rfl) (HFB.out.full q HM.out) (HFB.out.chg q HM.out) (Nat.le_trans (nfol_set_le HM.out HFB.out.ids _ (fun e => by cases e)) HFB.out.fols)
          have F3 := Lib.hid hF3.1
          have FB3 := Lib.hid (show ∀ b ∈ fBlocks bf bm (setQ es' q.id (fun x => { x with fol := false, sl := q.sl, ns := q.ns })), b ∈ fBlocks bf bm es' ∨ W.heap.size ≤ b from fun b hb => (hF3.2 b hb).imp id (fun h => by have := HSB.out; omega))
          have KD3 := Lib.hid (show Keeps D W (WB.setCell ⟨q.bq, 0, none⟩ (.bool false)) from (HEB.out.mono (fun _ _ g => g.elim)).trans' k3 (fun x _ e => (ST.out.iff x).2 (.inr (.inl (by have e' : x = q.bq := e; exact e' ▸ hqb')))))
          have hqn2 : w.heap.size + 1 + 1 ≠ q.bq := fun e => ST.out.n2q (e ▸ hqb')
          have N3 := Lib.hid ((ST.out.box.keeps HEB.out (fun g => g)).set_other (p := ⟨q.bq, 0, none⟩) hqn2 (.bool false))
          have R3 := owns_keeps (owns_keeps ST.out.row HEB.out (fun _ _ g => g)) k3 (fun b hb e => (ST.out.lvb b hb).2.1 (by have e' : b = q.bq := e; exact e' ▸ hqb'))
          have HP3 := Lib.hid (show (pushQ room n.abs ((order es).getD j 0, q.fol, q.ns.map Ntc.abs)).2 = (false, q.ns.map Ntc.abs) from by
            have := HL.out
            simp only [pushQ, HF.out, if_true, List.length_map]
            rw [if_neg (by omega), if_neg (by omega)])
          clear k3 hF3
          obtain ⟨ii, hii, hiz0, hiz1, hiz2⟩ := info_parts Try.infoI
          have HNW := Lib.hid (show ∀ jj u, ([Value.int .i64 ((order es).getD j 0)] : List Value)[jj]? = some u → ((WB.setCell ⟨q.bq, 0, none⟩ (.bool false)).alloc (.cells #[.int .i64 ((order es).getD j 0)] 3)).cell? ((⟨WB.heap.size, 0, none⟩ : Addr).add jj) = some u from by have := news_new (WB.setCell ⟨q.bq, 0, none⟩ (.bool false)) 3 [Value.int .i64 ((order es).getD j 0)]; rw [World.size_setCell] at this; exact this)
          have n3 := N3.out.cell (i := 0) (v := lv) (by rfl)
          have s3 := N3.out.lt
          have hlgl : (lagged room (view es) ((order es).take j)).length ≤ 1000 := by
            unfold lagged
            have h1 := List.length_filter_le (lagI room (view es)) ((order es).take j)
            have h2 : ((order es).take j).length ≤ es.length := by rw [List.length_take, order_len]; omega
            omega
          obtain ⟨lg, hlg⟩ : ∃ lg, lg = lagged room (view es) ((order es).take j) := ⟨_, rfl⟩
          rw [← hlg] at hlgl R3
          have R3 := Lib.hid R3
          have HLG := Lib.hid hlg
          clear hlg
          gi_wp2_with (gi_at_builtin; refine wpListIn_append_any _ rfl (.tmp 52) (.tmp 54) 27 rfl 3 ii _ 1 8 Try.uInts hii hiz0 hiz1 hiz2 rfl (by decide) lv lg.length (ints lg) rfl (World.ownsRow.alloc R3.out _) ⟨WB.heap.size, 0, none⟩ 1 1 [.int .i64 ((order es).getD j 0)] rfl rfl HNW.out (by simp [Value.oneCell']) (by unfold maxLen; omega) (by omega) ?_)
          intro lv' w4 r4 k4 o4
          obtain ⟨a4, c4, rfl⟩ := row_slice r4
          have hl3 : ∀ b, lv.ownBlock = some b → b < (WB.setCell ⟨q.bq, 0, none⟩ (.bool false)).heap.size := fun b hb => (World.ownsRow.lt R3.out b hb).2
          have N4 := (N3.out.alloc (.cells #[.int .i64 ((order es).getD j 0)] 3)).keeps k4 (fun e => (ST.out.lvb _ e).2.2 rfl)
          have n4 := N4.cell (i := 0) (v := lv) (by rfl)
          have f4 : w4.frozen? ⟨w.heap.size + 1 + 1, 0, none⟩ = false := N4.frozen
          have N4' := Lib.hid N4
          have R4 := Lib.hid r4
          have K4 := Lib.hid k4
          have O4 := Lib.hid o4
          clear N4 r4 k4 o4
          have hfin : ∃ D' : BSet, Keeps D W (w4.setCell ⟨w.heap.size + 1 + 1, 0, none⟩ (.slice a4 (lg.length + 1) c4)) ∧ (∀ b, D' b → D b ∨ W.heap.size ≤ b) ∧ PushC bf bm (w.heap.size + 1 + 1) w.heap.size room clock n.abs es (j + 1) D' (w4.setCell ⟨w.heap.size + 1 + 1, 0, none⟩ (.slice a4 (lg.length + 1) c4)) := by
            have hm := HM.out
            have hq1 := HF.out
            have k5 := Keeps.oneSet w4 ⟨w.heap.size + 1 + 1, 0, none⟩ (.slice a4 (lg.length + 1) c4)
            have k35 : Keeps (fun b => b = w.heap.size + 1 + 1 ∨ lv.ownBlock = some b) (WB.setCell ⟨q.bq, 0, none⟩ (.bool false)) (w4.setCell ⟨w.heap.size + 1 + 1, 0, none⟩ (.slice a4 (lg.length + 1) c4)) :=
              (((Keeps.refl (fun b => b = w.heap.size + 1 + 1 ∨ lv.ownBlock = some b) (WB.setCell ⟨q.bq, 0, none⟩ (.bool false))).alloc _).trans' K4.out (fun x _ e => .inr e)).trans' k5 (fun x _ e => .inl e)
            have hnotq : ∀ b ∈ fBlocks bf bm (setQ es' q.id (fun x => { x with fol := false, sl := q.sl, ns := q.ns })), b ∈ qBlocks es' ∨ W.heap.size ≤ b ∨ b = bf ∨ b = bm := fun b hb => by
              rcases FB3.out b hb with h | h
              · simp only [fBlocks, List.mem_cons] at h
                rcases h with h | h | h
                · exact .inr (.inr (.inl h))
                · exact .inr (.inr (.inr h))
                · exact .inl h
              · exact .inr (.inl h)
            have hsW : w.heap.size + 4 ≤ W.heap.size := by omega
            have hlvW : ∀ b, lv.ownBlock = some b → b < W.heap.size := fun b hb => (World.ownsRow.lt ST.out.row b hb).2
            have F5 := F3.out.keeps k35 (fun b hb hc => by
              rcases hc with hc | hc
              · rcases hnotq b hb with h | h | h | h
                · exact ST.out.n2q (hc ▸ h)
                · omega
                · omega
                · omega
              · have h0 := ST.out.lvb b hc
                have h9 := hlvW b hc
                rcases hnotq b hb with h | h | h | h
                · exact h0.2.1 h
                · omega
                · omega
                · omega)
            have hlag : lagI room (view es) ((order es).getD j 0) = true := by
              rw [lagI_of HV.out]; simp; have := HL.out; omega
            have hlr := lagged_succ (room := room) HJ.out
            rw [hlag, ← HLG.out] at hlr
            simp only [if_true] at hlr
            refine push_next (lv' := .slice a4 (lg.length + 1) c4) ST.out hids'.out HJ.out HQ.out F5 FB3.out HP3.out (KD3.out.trans' k35 (fun x _ e => (ST.out.iff x).2 (e.imp id .inr))) (by omega) (N4'.out.set_same (i := 0) _) ?_ (fun b hb => ?_) (fun b hb hc => ?_)
            · rw [hlr]
              have e1 : (lg ++ [(order es).getD j 0]).length = lg.length + 1 := by simp
              have e2 : ints (lg ++ [(order es).getD j 0]) = ints lg ++ [.int .i64 ((order es).getD j 0)] := by simp [ints]
              rw [e1, e2]
              refine owns_keeps R4.out k5 (fun b hb e => ?_)
              have e' : b = w.heap.size + 1 + 1 := e
              rcases O4.out with h | h
              · exact (ST.out.lvb b (h ▸ hb)).2.2 e'
              · have h9 := h b hb; (try simp at h9); have h8 := HSB.out; omega
            · rcases O4.out with h | h
              · exact .inl (h ▸ hb)
              · exact .inr (by have h9 := h b hb; (try simp at h9); have h8 := HSB.out; omega)
            · have hb3 : b < WB.heap.size := by have h7 := F3.out.lt (List.mem_cons_of_mem bf (List.mem_cons_of_mem bm hc)); rw [World.size_setCell] at h7; exact h7
              rcases O4.out with h | h
              · have hb' : lv.ownBlock = some b := h ▸ hb
                have h0 := ST.out.lvb b hb'
                have h9 := hlvW b hb'
                rcases hnotq b (List.mem_cons_of_mem _ (List.mem_cons_of_mem _ hc)) with h | h | h | h
                · exact h0.2.1 h
                · omega
                · omega
                · omega
              · have h9 := h b hb; (try simp at h9); have h8 := HSB.out; omega
          have HH := Lib.hid hfin
          clear hfin
          gi_wp2
          exact HH.out
  case hdone =>
    intro D O W hkp hc hs hdj hDf hOf hbd hDn hOn
    rw [S0] at hbd hDn hOn ⊢
    rw [hml'] at hc
    obtain ⟨es', lv, st⟩ := hc
    obtain ⟨_, _, hF, hM⟩ := hs
    have ht : (order es).take es.length = order es := List.take_of_length_le (by rw [order_len]; exact Nat.le_refl _)
    have n2c := st.box.cell (i := 0) (v := lv) (by rfl)
    have hrow := st.row
    have hvw := st.vw
    rw [ht] at hrow hvw
    have hall : pushK room n.abs (view es) (order es) = pushA room n.abs (view es) := pushK_all _ _ _ _ fun x hx => by
      have hx1 : x.1 ∈ (view es).map (·.1) := List.mem_map.2 ⟨x, hx, rfl⟩
      rw [view_ids] at hx1
      exact (List.mergeSort_perm (es.map QQ.id) _).mem_iff.2 hx1
    rw [hall] at hvw
    rw [← st.ent] at hM
    have FW : FeedAt W bf bm room clock es' := FeedAt.of hF hM st.que st.stat
    have KW : Keeps (fOwn bf bm es) w W := (E0.mono (fun _ _ g => g.elim)).trans' hkp (fun x hx hh => by
      rcases hh with (rfl | hh) | hh
      · omega
      · exact List.mem_cons_of_mem _ (List.mem_cons_of_mem _ hh)
      · exact hh.elim)
    have hFB : ∀ b ∈ fBlocks bf bm es', b ∈ fBlocks bf bm es ∨ w.heap.size ≤ b := fun b hb => by
      simp only [fBlocks, List.mem_cons] at hb
      rcases hb with h | h | h
      · exact .inl (by simp [fBlocks, h])
      · exact .inl (by simp [fBlocks, h])
      · rcases st.fresh b h with h | h
        · exact .inl (List.mem_cons_of_mem _ (List.mem_cons_of_mem _ h))
        · exact .inr h
    have hDm : w.heap.size + 4 ∉ fBlocks bf bm es' := fun hb => by
      simp only [fBlocks, List.mem_cons] at hb
      rcases hb with h | h | h
      · omega
      · omega
      · exact hDn ((st.iff _).2 (.inr (.inl h)))
    have hDl : ∀ b, lv.ownBlock = some b → b ≠ w.heap.size + 4 := fun b hb e => hDn ((st.iff _).2 (.inr (.inr (e ▸ hb))))
    have hk := Keeps.onePut W (w.heap.size + 4) (.deferred none)
    have hlvf : ∀ b, lv.ownBlock = some b → w.heap.size ≤ b ∧ b ∉ fBlocks bf bm es' := fun b hb => by
      have h0 := st.lvb b hb
      refine ⟨h0.1, fun hc => ?_⟩
      simp only [fBlocks, List.mem_cons] at hc
      rcases hc with h | h | h
      · omega
      · omega
      · exact h0.2.1 h
    have HP := Lib.hid (show PushPost w bf bm room es n.abs (.returned lv) (W.putObj (w.heap.size + 4) (.deferred none)) from
      ⟨clock, es', lv, rfl, FW.keeps hk (fun b hb e => hDm (e ▸ hb)), hvw, KW.trans' hk (fun x hx e => by omega), hFB, owns_keeps hrow hk (fun b hb e => hDl b hb e), hlvf⟩)
    have HBD := Lib.hid hbd
    clear hrow hvw hall hF hM FW KW hFB hDm hDl hk hlvf st hbd hkp hqb F0 BX B0 B1 B2 E0 hW0
    gi_wp2
    refine ⟨by simp, .inl ⟨_, _, rfl, run_takeDeferred HBD.out, ?_⟩⟩
    refine ⟨_, results_tmp rfl _ _ _, ?_⟩
    exact HP.out
  case hstop => intro c j D O W _ _ _ hc; exact hc.elim
end
end Go.Proofs.Ytdempgabidbjfaa
