/- The feed: New, Unsubscribe, Pop, by what is seen of the state. -/
import Derived.Test.YtdempgabidbjfaaFeedD
namespace Go.Proofs.Ytdempgabidbjfaa
open Go Go.RowKit
set_option linter.unusedSimpArgs false
set_option linter.unusedVariables false

/-- What is seen of a notice; of a queue. -/
abbrev NtcA := Int × Int × Int × List UInt8
abbrev AQ := Int × Bool × List NtcA
def Ntc.abs (n : Ntc) : NtcA := (n.ses, n.err, n.blk, n.root)
def QQ.abs (q : QQ) : AQ := (q.id, q.fol, q.ns.map Ntc.abs)
def view (es : List QQ) : List AQ := es.map QQ.abs
def getA (l : List AQ) (k : Int) : Option (Bool × List NtcA) := (l.find? (fun x => decide (k = x.1))).map (·.2)
def setA (l : List AQ) (k : Int) (v : Bool × List NtcA) : List AQ := l.map (fun x => if k = x.1 then (x.1, v) else x)
def remA (l : List AQ) (k : Int) : List AQ := l.filter (fun x => decide (k ≠ x.1))
def tidyA (l : List AQ) (k : Int) : List AQ :=
  match getA l k with
  | some (false, []) => remA l k
  | _ => l
def unsubA (l : List AQ) (k : Int) : List AQ :=
  match getA l k with
  | some (true, ns) => tidyA (setA l k (false, ns)) k
  | _ => l
def popA (l : List AQ) (k : Int) : List AQ :=
  match getA l k with
  | some (f, _ :: ns) => tidyA (setA l k (f, ns)) k
  | _ => l
def headA (l : List AQ) (k : Int) : Option NtcA := (getA l k).bind fun x => x.2.head?

theorem getA_view (es : List QQ) (k : Int) : getA (view es) k = (getQ es k).map fun q => (q.fol, q.ns.map Ntc.abs) := by
  unfold getA getQ view
  rw [List.find?_map]
  simp only [Option.map_map]
  rfl
theorem remA_view (es : List QQ) (k : Int) : view (remQ es k) = remA (view es) k := by
  unfold view remQ remA
  rw [List.filter_map]
  rfl
theorem tidyA_view (es : List QQ) (k : Int) : view (tidyQ es k) = tidyA (view es) k := by
  unfold tidyQ tidyA
  rw [getA_view]
  cases hq : getQ es k with
  | none => rfl
  | some q =>
    simp only [Option.map_some]
    cases hf : q.fol with
    | true => simp
    | false =>
      cases hn : q.ns with
      | nil => simp [remA_view]
      | cons x r => simp
theorem setA_view (es : List QQ) (k : Int) (f : QQ → QQ) (v : Bool × List NtcA) (hf : ∀ q ∈ es, q.id = k → (f q).abs = (k, v)) : view (setQ es k f) = setA (view es) k v := by
  unfold view setQ setA
  rw [List.map_map, List.map_map]
  refine List.map_congr_left fun q hq => ?_
  simp only [Function.comp]
  by_cases h : k = q.id
  · simp only [h, if_true, QQ.abs]
    have := hf q hq h.symm
    rw [h] at this
    exact this
  · simp only [h, if_false, QQ.abs]

/-- What a method leaves behind. -/
def Next (w w' : World) (bf bm : Nat) (room : Int) (es : List QQ) (A : List AQ) : Prop :=
  ∃ clock' es', FeedAt w' bf bm room clock' es' ∧ view es' = A ∧ Keeps (fOwn bf bm es) w w' ∧ ∀ b ∈ fBlocks bf bm es', b ∈ fBlocks bf bm es ∨ w.heap.size ≤ b

theorem nfol_set_false (es : List QQ) (k : Int) (f : QQ → QQ) (hf : ∀ q, (f q).fol = true → q.fol = true) : nfol (setQ es k f) ≤ nfol es := by
  induction es with
  | nil => exact Nat.le_refl _
  | cons q r ih =>
    simp only [nfol, setQ, List.map_cons, List.filter_cons] at ih ⊢
    by_cases hk : k = q.id
    · simp only [hk, if_true]
      simp only [hk] at ih
      cases h1 : (f q).fol with
      | true => rw [hf q h1]; simpa using ih
      | false => cases q.fol <;> simp <;> omega
    · simp only [hk, if_false]
      cases q.fol <;> simp <;> omega

theorem new_at (w : World) (r : Int) (h1 : 1 ≤ r) (h4 : r ≤ 4) : FeedAt ((w.alloc (.map #[] 0)).alloc (.cells #[.int .i64 r, .map (some w.heap.size)] 48)) (w.heap.size + 1) w.heap.size r 0 [] := by
  refine ⟨?_, ?_, by simp, by simp, by simp [fBlocks], by simp, by simp, by simp, h1, h4, by simp, by simp [nfol], by simp, by simp, by simp⟩
  · have := Blk.new (w.alloc (.map #[] 0)) (.cells #[.int .i64 r, .map (some w.heap.size)] 48)
    rwa [World.size_alloc] at this
  · exact (Blk.new w (.map #[] 0)).alloc _
def NewPost (w : World) (room : Int) (e : Ending) (w' : World) : Prop :=
    ∃ bf bm, e = .returned (.pointer (some ⟨bf, 0, none⟩)) ∧ FeedAt w' bf bm (min (max room 1) 4) 0 [] ∧ Ext w w' ∧ w.heap.size ≤ bf ∧ w.heap.size ≤ bm
theorem new_post (w : World) (room r : Int) (h : r = min (max room 1) 4) : NewPost w room (.returned (.pointer (some ⟨w.heap.size + 1, 0, none⟩))) ((w.alloc (.map #[] 0)).alloc (.cells #[.int .i64 r, .map (some w.heap.size)] 48)) :=
  ⟨w.heap.size + 1, w.heap.size, rfl, h ▸ new_at w r (by omega) (by omega), ((Keeps.refl _ w).alloc _).alloc _, by omega, by omega⟩

set_option maxHeartbeats 400000 in
theorem new_c (w : World) (room : Int) : Calls Try.prog 7 #[.int .i64 room] w (NewPost w room) := by
  have hmm := @run_makeMap Try.prog
  go_enter Try.func7, Try.ntmps7
  go_wp2
  all_goals
    go_ret
    exact new_post w room _ (by omega)

theorem setQ_fol (es : List QQ) (k : Int) (f g : QQ → QQ) (hfg : ∀ q ∈ es, q.id = k → f q = g q) : setQ es k f = setQ es k g :=
  List.map_congr_left fun q hq => by
    by_cases h : k = q.id
    · simp only [h, if_true]; exact hfg q hq h.symm
    · simp only [h, if_false]

theorem getQ_uniq {es : List QQ} {k : Int} {q x : QQ} (h : getQ es k = some q) (hids : (es.map QQ.id).Nodup) (hx : x ∈ es) (hk : x.id = k) : x = q := by
  obtain ⟨hq, hqk⟩ := getQ_mem h
  obtain ⟨l1, l2, rfl, _, n1, n2⟩ := setQ_split hq hids
  rcases List.mem_append.1 hx with h | h
  · exact absurd (hqk.trans hk.symm) (n1 x h)
  · rcases List.mem_cons.1 h with h | h
    · exact h
    · exact absurd (hqk.trans hk.symm) (n2 x h)

/-- The state behind a change of one queue, and a tidy. -/
theorem tidy_next {w w1 w2 : World} {bf bm : Nat} {room : Int} {clock : Nat} {es : List QQ} (h : FeedAt w bf bm room clock es) {k : Int} {q : QQ} (hq : getQ es k = some q)
    {fol' : Bool} {sl' : Value} {ns' : List Ntc} (h1 : FeedAt w1 bf bm room clock (setQ es q.id (fun x => { x with fol := fol', sl := sl', ns := ns' })))
    (hb : ∀ b ∈ fBlocks bf bm (setQ es q.id (fun x => { x with fol := fol', sl := sl', ns := ns' })), b ∈ fBlocks bf bm es ∨ w.heap.size ≤ b)
    (k1 : Keeps (fun b => b = q.bq ∨ q.sl.ownBlock = some b) w w1) (h2 : FeedAt w2 bf bm room clock (tidyQ (setQ es q.id (fun x => { x with fol := fol', sl := sl', ns := ns' })) k)) (k2 : Keeps (fun b => b = bm) w1 w2) :
    Next w w2 bf bm room es (tidyA (setA (view es) k (fol', ns'.map Ntc.abs)) k) := by
  obtain ⟨hm, hk⟩ := getQ_mem hq
  refine ⟨clock, _, h2, ?_, ?_, fun b hb' => ?_⟩
  · rw [tidyA_view]
    congr 1
    rw [hk]
    exact setA_view es k _ _ fun x hx hxk => by simp [QQ.abs, hxk]
  · refine (k1.mono fun x _ hx => ?_).trans' k2 fun x _ hx => ?_
    · simp only [fOwn, fBlocks, List.mem_cons, List.mem_flatMap, QQ.own, Option.mem_toList]; exact .inr (.inr ⟨q, hm, hx⟩)
    · subst hx; simp [fOwn, fBlocks]
  · refine hb b ?_
    unfold tidyQ at hb'
    split at hb'
    · split at hb'
      · have := ((own_sub (remQ_sub (setQ es q.id (fun x => { x with fol := fol', sl := sl', ns := ns' })) k)).cons_cons bm).cons_cons bf
        exact this.mem hb'
      · exact hb'
    · exact hb'

theorem Next.refl {w : World} {bf bm : Nat} {room : Int} {clock : Nat} {es : List QQ} (h : FeedAt w bf bm room clock es) : Next w w bf bm room es (view es) :=
  ⟨clock, es, h, rfl, Keeps.refl _ _, fun b hb => .inl hb⟩

section
variable {w : World} {bf bm : Nat} {room : Int} {clock : Nat} {es : List QQ} (h : FeedAt w bf bm room clock es)
include h
theorem FeedAt.ne_qs {q : QQ} (hm : q ∈ es) : q.sl.ownBlock ≠ some q.bq := by
  intro hb
  have := h.nodup
  obtain ⟨l1, l2, he, _⟩ := setQ_split hm h.ids
  rw [he, (own_perm bf bm l1 l2 q).nodup_iff, List.nodup_append] at this
  have := this.1
  simp [QQ.own, hb] at this
theorem FeedAt.noFreeze {q : QQ} (hq : q ∈ es) (i : Nat) : w.frozen? ⟨q.bq, i, none⟩ = false := (h.que q hq).frozen

set_option maxHeartbeats 400000 in
theorem unsub_c (k : Int) : Calls Try.prog 17 #[.pointer (some ⟨bf, 0, none⟩), .int .i64 k] w fun e w' =>
    e = .returned (.bool (followsB es k)) ∧ Next w w' bf bm room es (unsubA (view es) k) := by
  have hl := h.look k
  have h1 := h.c1
  have hfc := Lib.hid (follows_c h k)
  have h0 := Lib.hid h
  cases hq : getQ es k with
  | none =>
    have H := Lib.hid (show followsB es k = false ∧ unsubA (view es) k = view es by simp [followsB, hq, unsubA, getA_view])
    clear hq h hl h1
    go_enter Try.func17, Try.ntmps17
    have H1 := H.out.1
    go_wp2_with (go_at_call 12; refine hfc.out.mono ?_; rintro e w' ⟨rfl, rfl⟩)
    go_ret
    exact ⟨by rw [H1]; rfl, by rw [H.out.2]; exact Next.refl h0.out⟩
  | some q =>
    obtain ⟨hm, hk⟩ := getQ_mem hq
    have hqf := (h.que q hm).cell (i := 0) (v := .bool q.fol) (by rfl)
    have hqz := h.noFreeze hm 0
    rw [hq] at hl
    simp only [Option.map_some, Option.getD_some] at hl
    cases hf : q.fol with
    | false =>
      have H := Lib.hid (show followsB es k = false ∧ unsubA (view es) k = view es by simp [followsB, hq, unsubA, getA_view, hf])
      clear hq h hl h1 hqf hqz hm hk hf
      go_enter Try.func17, Try.ntmps17
      have H1 := H.out.1
      go_wp2_with (go_at_call 12; refine hfc.out.mono ?_; rintro e w' ⟨rfl, rfl⟩)
      go_ret
      exact ⟨by rw [H1]; rfl, by rw [H.out.2]; exact Next.refl h0.out⟩
    | true =>
      have H := Lib.hid (show followsB es k = true ∧ unsubA (view es) k = tidyA (setA (view es) k (false, q.ns.map Ntc.abs)) k by simp [followsB, hq, unsubA, getA_view, hf])
      have k1 : Keeps (fun b => b = q.bq ∨ q.sl.ownBlock = some b) w (w.setCell ⟨q.bq, 0, none⟩ (.bool false)) := (Keeps.oneSet w ⟨q.bq, 0, none⟩ _).mono fun x _ e => .inl e
      have hu := h.upd hm (fol' := false) (sl' := q.sl) (ns' := q.ns) k1 ((h.que q hm).set_same (i := 0) (.bool false)) (row_keeps (h.row q hm) (Keeps.oneSet w ⟨q.bq, 0, none⟩ (.bool false)) (fun b hb e => h.ne_qs hm (hb.trans (congrArg some e)))) (.inl rfl) (h.full q hm) (h.chg q hm) (Nat.le_trans (nfol_set_false es q.id _ (fun x e => by cases e)) h.fols)
      have HU := Lib.hid hu
      have HK := Lib.hid k1
      have HQ := Lib.hid hq
      clear hq h hm hk hf hu k1
      go_enter Try.func17, Try.ntmps17
      have H1 := H.out.1
      go_wp2_with (first
        | (go_at_call 12; refine hfc.out.mono ?_; rintro e w' ⟨rfl, rfl⟩)
        | (go_at_call 21; refine (tidy_c HU.out.1 k).mono ?_; rintro e w' ⟨rfl, g1, g2⟩; have G1 := Lib.hid g1; have G2 := Lib.hid g2; clear g1 g2))
      go_ret
      exact ⟨by rw [H1]; rfl, by rw [H.out.2]; exact tidy_next h0.out HQ.out HU.out.1 HU.out.2 HK.out G1.out G2.out⟩
end
end Go.Proofs.Ytdempgabidbjfaa
