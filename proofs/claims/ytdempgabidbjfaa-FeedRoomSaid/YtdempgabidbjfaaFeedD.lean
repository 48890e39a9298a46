/- The feed: a queue changed; New, Unsubscribe, Pop. -/
import Derived.Test.YtdempgabidbjfaaFeedC
namespace Go.Proofs.Ytdempgabidbjfaa
open Go Go.RowKit
set_option linter.unusedSimpArgs false
set_option linter.unusedVariables false

theorem setQ_split {es : List QQ} {q : QQ} (hq : q ∈ es) (hids : (es.map QQ.id).Nodup) : ∃ l1 l2, es = l1 ++ q :: l2 ∧ (∀ f, setQ es q.id f = l1 ++ f q :: l2) ∧ (∀ x ∈ l1, q.id ≠ x.id) ∧ (∀ x ∈ l2, q.id ≠ x.id) := by
  obtain ⟨l1, l2, rfl⟩ := List.append_of_mem hq
  simp only [List.map_append, List.map_cons, List.nodup_append, List.nodup_cons] at hids
  obtain ⟨h1, ⟨h2, h3⟩, h4⟩ := hids
  have a1 : ∀ x ∈ l1, q.id ≠ x.id := fun x hx e => h4 x.id (List.mem_map_of_mem hx) q.id (List.mem_cons_self ..) e.symm
  have a2 : ∀ x ∈ l2, q.id ≠ x.id := fun x hx e => h2 (e ▸ List.mem_map_of_mem hx)
  refine ⟨l1, l2, rfl, fun f => ?_, a1, a2⟩
  simp only [setQ, List.map_append, List.map_cons, if_true]
  have b : ∀ l : List QQ, (∀ x ∈ l, q.id ≠ x.id) → l.map (fun x => if q.id = x.id then f x else x) = l := by
    intro l hl; conv => rhs; rw [← List.map_id l]
    exact List.map_congr_left fun x hx => by simp [hl x hx]
  rw [b l1 a1, b l2 a2]

theorem getQ_setQ (es : List QQ) (k j : Int) (f : QQ → QQ) (hf : ∀ q, (f q).id = q.id) : getQ (setQ es k f) j = (getQ es j).map fun q => if k = q.id then f q else q := by
  unfold getQ setQ
  rw [List.find?_map]
  congr 1
  congr 1
  funext q
  simp only [Function.comp]
  split <;> simp_all

theorem setQ_ids (es : List QQ) (k : Int) (f : QQ → QQ) (hf : ∀ q, (f q).id = q.id) : (setQ es k f).map QQ.id = es.map QQ.id := by
  simp only [setQ, List.map_map]
  exact List.map_congr_left fun q _ => by simp only [Function.comp]; split <;> simp_all

theorem row_lt {w : World} {base : Nat} {v : Value} {l : List Ntc} (h : NtcRow w base v l) {b : Nat} (hb : v.ownBlock = some b) : b < w.heap.size := (World.ownsRow.lt h b hb).2
theorem row_keeps {F : BSet} {w w' : World} {base : Nat} {v : Value} {l : List Ntc} (h : NtcRow w base v l) (k : Keeps F w w') (hF : ∀ b, v.ownBlock = some b → ¬ F b) : NtcRow w' base v l := by
  obtain ⟨h1, h2 | ⟨g, cap, cur, rfl, h3, h4, h5⟩⟩ := h
  · exact ⟨h1, .inl h2⟩
  · exact ⟨h1, .inr ⟨g, cap, cur, rfl, h3, (show Blk w g _ from h4).keeps k (hF g rfl), h5⟩⟩

theorem own_perm (bf bm : Nat) (l1 l2 : List QQ) (q : QQ) : (fBlocks bf bm (l1 ++ q :: l2)).Perm (q.own ++ (bf :: bm :: (l1.flatMap QQ.own ++ l2.flatMap QQ.own))) := by
  simp only [fBlocks, List.flatMap_append, List.flatMap_cons]
  refine List.Perm.trans ?_ (List.perm_middle.trans (List.Perm.cons _ List.perm_middle)).symm
  exact (List.perm_append_comm_assoc _ _ _).cons _ |>.cons _

section
variable {w : World} {bf bm : Nat} {room : Int} {clock : Nat} {es : List QQ} (h : FeedAt w bf bm room clock es)
include h

theorem FeedAt.lt {b : Nat} (hb : b ∈ fBlocks bf bm es) : b < w.heap.size := by
  simp only [fBlocks, List.mem_cons, List.mem_flatMap, QQ.own, Option.mem_toList] at hb
  rcases hb with rfl | rfl | ⟨q, hq, rfl | hb⟩
  · exact h.feed.lt
  · exact h.map.lt
  · exact (h.que q hq).lt
  · exact row_lt (h.row q hq) hb

theorem FeedAt.keeps {F : BSet} {w' : World} (k : Keeps F w w') (hF : ∀ b ∈ fBlocks bf bm es, ¬ F b) : FeedAt w' bf bm room clock es :=
  ⟨h.feed.keeps k (hF _ (by simp [fBlocks])), h.map.keeps k (hF _ (by simp [fBlocks])),
   fun q hq => (h.que q hq).keeps k (hF _ (by simp only [fBlocks, List.mem_cons, List.mem_flatMap, QQ.own]; exact .inr (.inr ⟨q, hq, .inl rfl⟩))),
   fun q hq => row_keeps (h.row q hq) k (fun b hb => hF _ (by simp only [fBlocks, List.mem_cons, List.mem_flatMap, QQ.own, Option.mem_toList]; exact .inr (.inr ⟨q, hq, .inr hb⟩))),
   h.nodup, h.ids, h.born, h.stamps, h.lo, h.hi, h.full, h.fols, h.wf, h.few, h.chg⟩

/-- One queue is changed. -/
theorem FeedAt.upd {q : QQ} (hq : q ∈ es) {w' : World} {fol' : Bool} {sl' : Value} {ns' : List Ntc}
    (k : Keeps (fun b => b = q.bq ∨ q.sl.ownBlock = some b) w w') (hb : Blk w' q.bq (.cells #[.bool fol', sl'] 56)) (hr : NtcRow w' 0 sl' ns')
    (hown : sl'.ownBlock = q.sl.ownBlock ∨ ∀ b, sl'.ownBlock = some b → w.heap.size ≤ b)
    (hfull : (ns'.length : Int) ≤ room + 1)
    (hchg : ∀ n ∈ ns', n.chg.oneCell' = true)
    (hfol : nfol (setQ es q.id (fun x => { x with fol := fol', sl := sl', ns := ns' })) ≤ 4) :
    FeedAt w' bf bm room clock (setQ es q.id (fun x => { x with fol := fol', sl := sl', ns := ns' })) ∧
    (∀ b ∈ fBlocks bf bm (setQ es q.id (fun x => { x with fol := fol', sl := sl', ns := ns' })), b ∈ fBlocks bf bm es ∨ w.heap.size ≤ b) := by
  obtain ⟨l1, l2, he, hs, n1, n2⟩ := setQ_split hq h.ids
  have hs := hs (fun x => { x with fol := fol', sl := sl', ns := ns' })
  have hnd := h.nodup
  have hlt : ∀ b ∈ fBlocks bf bm es, b < w.heap.size := fun b hb => h.lt hb
  rw [he, (own_perm bf bm l1 l2 q).nodup_iff, List.nodup_append] at hnd
  obtain ⟨m1, m2, m3⟩ := hnd
  have hmem : ∀ b ∈ bf :: bm :: (l1.flatMap QQ.own ++ l2.flatMap QQ.own), b ∈ fBlocks bf bm es := fun b hb => by
    rw [he]; exact (own_perm bf bm l1 l2 q).mem_iff.2 (List.mem_append_right _ hb)
  have hoth : ∀ b ∈ bf :: bm :: (l1.flatMap QQ.own ++ l2.flatMap QQ.own), ¬ (b = q.bq ∨ q.sl.ownBlock = some b) := by
    intro b hb hc
    exact m3 b (by simp only [QQ.own, List.mem_cons, Option.mem_toList]; exact hc) b hb rfl
  have hql : q.bq < w.heap.size := (h.que q hq).lt
  obtain ⟨q', hq'⟩ : ∃ q' : QQ, q' = { q with fol := fol', sl := sl', ns := ns' } := ⟨_, rfl⟩
  have hs' : setQ es q.id (fun x => { x with fol := fol', sl := sl', ns := ns' }) = l1 ++ q' :: l2 := by rw [hs, hq']
  have hids' : (setQ es q.id (fun x => { x with fol := fol', sl := sl', ns := ns' })).map QQ.id = es.map QQ.id := setQ_ids _ _ _ (fun _ => rfl)
  have hent : (setQ es q.id (fun x => { x with fol := fol', sl := sl', ns := ns' })).map QQ.ent = es.map QQ.ent := by rw [hs', he, hq']; simp [QQ.ent]
  have hst : (setQ es q.id (fun x => { x with fol := fol', sl := sl', ns := ns' })).map QQ.st = es.map QQ.st := by rw [hs', he, hq']; simp
  have hlen : (setQ es q.id (fun x => { x with fol := fol', sl := sl', ns := ns' })).length = es.length := by rw [hs', he]; simp
  have hin : ∀ x ∈ setQ es q.id (fun x => { x with fol := fol', sl := sl', ns := ns' }), x = q' ∨ (x ∈ es ∧ x.bq ∈ bf :: bm :: (l1.flatMap QQ.own ++ l2.flatMap QQ.own) ∧ ∀ b, x.sl.ownBlock = some b → b ∈ bf :: bm :: (l1.flatMap QQ.own ++ l2.flatMap QQ.own)) := by
    intro x hx
    rw [hs'] at hx
    rcases List.mem_append.1 hx with hx | hx
    · refine .inr ⟨by rw [he]; exact List.mem_append_left _ hx, ?_, fun b hb => ?_⟩
      · simp only [List.mem_cons, List.mem_append, List.mem_flatMap]; exact .inr (.inr (.inl ⟨x, hx, by simp [QQ.own]⟩))
      · simp only [List.mem_cons, List.mem_append, List.mem_flatMap]; exact .inr (.inr (.inl ⟨x, hx, by simp [QQ.own, hb]⟩))
    · rcases List.mem_cons.1 hx with rfl | hx
      · exact .inl rfl
      · refine .inr ⟨by rw [he]; exact List.mem_append_right _ (List.mem_cons_of_mem _ hx), ?_, fun b hb => ?_⟩
        · simp only [List.mem_cons, List.mem_append, List.mem_flatMap]; exact .inr (.inr (.inr ⟨x, hx, by simp [QQ.own]⟩))
        · simp only [List.mem_cons, List.mem_append, List.mem_flatMap]; exact .inr (.inr (.inr ⟨x, hx, by simp [QQ.own, hb]⟩))
  generalize hes : setQ es q.id (fun x => { x with fol := fol', sl := sl', ns := ns' }) = es' at *
  refine ⟨⟨h.feed.keeps k (hoth _ (by simp)), by rw [hent]; exact h.map.keeps k (hoth _ (by simp)), ?_, ?_, ?_, by rw [hids']; exact h.ids, ?_, by rw [hst]; exact h.stamps, h.lo, h.hi, ?_, hfol, ?_, by rw [hlen]; exact h.few, ?_⟩, ?_⟩
  · intro x hx
    rcases hin x hx with rfl | ⟨h1, h2, _⟩
    · rw [hq']; exact hb
    · exact (h.que x h1).keeps k (hoth _ h2)
  · intro x hx
    rcases hin x hx with rfl | ⟨h1, _, h2⟩
    · rw [hq']; exact hr
    · exact row_keeps (h.row x h1) k (fun b hb' => hoth _ (h2 b hb'))
  · rw [hs', (own_perm bf bm l1 l2 q').nodup_iff, List.nodup_append]
    have ho' : ∀ b ∈ q'.own, b = q.bq ∨ sl'.ownBlock = some b := by
      intro b hb'; rw [hq'] at hb'; simpa [QQ.own] using hb'
    refine ⟨?_, m2, ?_⟩
    · rw [hq']; simp only [QQ.own]
      cases hso : sl'.ownBlock with
      | none => simp
      | some b =>
        simp only [Option.toList_some, List.nodup_cons, List.mem_singleton, List.not_mem_nil, not_false_eq_true, List.nodup_nil, and_true]
        rcases hown with e | e
        · simp only [QQ.own, ← e, hso, Option.toList_some, List.nodup_cons, List.mem_singleton, List.not_mem_nil, not_false_eq_true, List.nodup_nil, and_true] at m1
          exact m1
        · have := e b hso; omega
    · intro x hx y hy exy
      subst exy
      rcases ho' x hx with rfl | hx
      · exact hoth _ hy (.inl rfl)
      · rcases hown with e | e
        · exact hoth _ hy (.inr (e ▸ hx))
        · have := e x hx; have := hlt x (hmem x hy); omega
  · intro x hx
    rcases hin x hx with rfl | ⟨h1, _⟩
    · rw [hq']; exact h.born q hq
    · exact h.born x h1
  · intro x hx
    rcases hin x hx with rfl | ⟨h1, _⟩
    · rw [hq']; exact hfull
    · exact h.full x h1
  · intro x hx
    rcases hin x hx with rfl | ⟨h1, _⟩
    · rw [hq']; exact h.wf q hq
    · exact h.wf x h1
  · intro x hx
    rcases hin x hx with rfl | ⟨h1, _⟩
    · rw [hq']; exact hchg
    · exact h.chg x h1
  · intro b hb'
    rw [hs', (own_perm bf bm l1 l2 q').mem_iff] at hb'
    rcases List.mem_append.1 hb' with hb' | hb'
    · rw [hq'] at hb'
      simp only [QQ.own, List.mem_cons, Option.mem_toList] at hb'
      have hin' : ∀ b, b = q.bq ∨ q.sl.ownBlock = some b → b ∈ fBlocks bf bm es := fun b hb => by
        rw [he, (own_perm bf bm l1 l2 q).mem_iff]
        refine List.mem_append_left _ ?_
        simp only [QQ.own, List.mem_cons, Option.mem_toList]; exact hb
      rcases hb' with rfl | hb'
      · exact .inl (hin' _ (.inl rfl))
      · rcases hown with e | e
        · exact .inl (hin' _ (.inr (e ▸ hb')))
        · exact .inr (e b hb')
    · exact .inl (hmem b hb')
end
end Go.Proofs.Ytdempgabidbjfaa
