/- Parts of the proof, one behind the other: CurPl, CurB. Each is under no condition but those that it states. -/
import Derived.Test.YtneojlgbcaejmaaGreatDoorBa25
/- cursor, plain: what is left to be looked at stands for the entries from a key on. -/
namespace Go.Proofs.YtneojlgbcaejmaaGreatDoor
section
open Go Go.RowKit
set_option linter.unusedSimpArgs false
set_option linter.unusedVariables false
def downP (fr : ByteArray) (n : NodeT) (p : ByteArray) (k : Nat) : List Pl5 := (List.range k).reverse.flatMap fun i => aheadP fr (p ++ nib1 i) (n.refs.getD i ⟨#[]⟩)
/-- What is laid down of a node; the first thing last. -/
def layP (fr : ByteArray) (n : NodeT) (p : ByteArray) : List Pl5 :=
  if n.kind = 1 then entryP fr (p ++ n.path) n.value
  else if n.kind = 2 then aheadP fr (p ++ n.path) (n.refs.getD 0 ⟨#[]⟩)
  else if n.kind = 3 then downP fr n p 16 ++ entryP fr p n.value
  else []
/-! How many nodes there are. -/
def sumF (g : Nat → Nat) : Nat → Nat
  | 0 => 0
  | n + 1 => sumF g n + g n
def cntT : Nat → List Pair → Nat
  | 0, _ => 1
  | f + 1, l => 1 + (if l.length ≤ 1 then 0 else if 0 < comK l then cntT f (dropL (comK l) l) else sumF (fun i => if (cutL i l).length = 0 then 0 else cntT f (dropL 1 (cutL i l))) 16)
theorem sum_grow (g : Nat → Nat) (l : List Pair) (h0 : ∀ i, (cutL i l).length = 0 → g i = 0) (hg : ∀ i, (cutL i l).length ≠ 0 → g i + 2 ≤ 3 * (cutL i l).length) : ∀ n, sumF g n + 2 * partsN l n ≤ 3 * cutSum l n
  | 0 => by simp [sumF, cutSum, partsN]
  | n + 1 => by
    have ih := sum_grow g l h0 hg n
    rw [sumF, cutSum, partsN]
    by_cases hz : (cutL n l).length = 0
    · rw [if_pos hz, h0 n hz]; omega
    · have := hg n hz
      rw [if_neg hz]; omega
structure CntP (c : Nat) (l : List Pair) : Prop where
  all : c + 2 ≤ 3 * l.length
  two : 2 ≤ l.length → comK l = 0 → c + 3 ≤ 3 * l.length
theorem cnt_le : ∀ (f : Nat) (l : List Pair), RowsOk f l → l ≠ [] → CntP (cntT f l) l := by
  intro f
  induction f with
  | zero =>
    intro l h hn
    have h0 : l.length ≠ 0 := fun e => hn (List.eq_nil_of_length_eq_zero e)
    have hl := rows_one h
    exact ⟨by show 1 + 2 ≤ _; omega, fun h2 => by omega⟩
  | succ f ih =>
    intro l h hn
    have h0 : l.length ≠ 0 := fun e => hn (List.eq_nil_of_length_eq_zero e)
    by_cases h1 : l.length = 1
    · have e : cntT (f + 1) l = 1 := by unfold cntT; rw [if_pos (by omega)]
      exact ⟨by omega, fun h2 => by omega⟩
    have h2 : 2 ≤ l.length := by omega
    have hcom := com_all h h2
    by_cases hk : 0 < comK l
    · have hok : RowsOk f (dropL (comK l) l) := (dropL_ok (comK l) h (fun p hp q hq => (hcom p hp).1.trans (hcom q hq).1.symm) (fun p hp => (hcom p hp).2)).mono (by omega)
      have hne : dropL (comK l) l ≠ [] := fun e => by have := dropL_len (comK l) l; rw [e] at this; simp at this; omega
      have hlen := (ih _ hok hne).two (by rw [dropL_len]; omega) (comK_drop (by omega))
      rw [dropL_len] at hlen
      have e : cntT (f + 1) l = 1 + cntT f (dropL (comK l) l) := by rw [cntT, if_neg (by omega), if_pos hk]
      exact ⟨by omega, fun _ hz => by omega⟩
    · have hkid : ∀ i, (cutL i l).length ≠ 0 → dropL 1 (cutL i l) ≠ [] := fun i hi e => by have := dropL_len 1 (cutL i l); rw [e] at this; simp at this; omega
      obtain ⟨a, ha⟩ : ∃ a, l[0]? = some a := ⟨_, List.getElem?_eq_getElem (by omega)⟩
      obtain ⟨b, hb⟩ : ∃ b, l[l.length - 1]? = some b := ⟨_, List.getElem?_eq_getElem (by omega)⟩
      have ga : l.getD 0 pd = a := by rw [List.getD_eq_getElem?_getD, ha]; rfl
      have gb : l.getD (l.length - 1) pd = b := by rw [List.getD_eq_getElem?_getD, hb]; rfl
      have ham := List.mem_of_getElem? ha
      have hbm := List.mem_of_getElem? hb
      have hlt := pair_get h.rise (by omega) ha hb
      obtain ⟨g, hgd⟩ : ∃ g, g = fun i => if (cutL i l).length = 0 then 0 else cntT f (dropL 1 (cutL i l)) := ⟨_, rfl⟩
      have e : cntT (f + 1) l = 1 + sumF g 16 := by rw [cntT, if_neg (by omega), if_neg hk, hgd]
      have hlen : sumF g 16 + 4 ≤ 3 * l.length := by
        have hks := sum_grow g l (fun i hi => by rw [hgd]; simp only [hi, if_true]) (fun i hi => by
          have := (ih _ (sub_ok i h) (hkid i hi)).all
          rw [dropL_len] at this
          rw [hgd]; simp only [if_neg hi]; exact this) 16
        have hkc : common a.l b.l = 0 := by
          have : comK l = common a.l b.l := by unfold comK commonN; rw [ga, gb]
          omega
        cases hbl : b.l with
        | nil => rw [hbl] at hlt; exact absurd hlt (not_lt_nil _)
        | cons y t =>
          have hy := nib_lt (h.size b hbm).2.2.1 hbl
          have cb := cut_len hbm hbl
          cases hal : a.l with
          | nil =>
            have := cutSum_lt ⟨a, ham, hal⟩ 16
            have := parts_one cb hy
            omega
          | cons x r =>
            have hx := nib_lt (h.size a ham).2.2.1 hal
            have ca := cut_len ham hal
            have hxy : x ≠ y := by
              intro e
              rw [hal, hbl, e] at hkc
              simp [common] at hkc
            have hne : x.toNat ≠ y.toNat := fun e => hxy (UInt8.toNat_inj.1 e)
            have := cutSum_le l 16
            have : 2 ≤ partsN l 16 := by
              rcases Nat.lt_or_ge x.toNat y.toNat with e | e
              · exact parts_two ca cb e hy
              · exact parts_two cb ca (by omega) hx
            omega
      exact ⟨by omega, fun _ _ => by omega⟩
/-! Rising lists. -/
theorem rise_eq {α : Type} {R : α → α → Prop} (hi : ∀ x, ¬ R x x) (ht : ∀ x y, R x y → ¬ R y x) : ∀ {a b : List α}, a.Pairwise R → b.Pairwise R → (∀ x, x ∈ a ↔ x ∈ b) → a = b
  | [], [], _, _, _ => rfl
  | [], y :: b, _, _, h => absurd ((h y).2 List.mem_cons_self) (by simp)
  | x :: a, [], _, _, h => absurd ((h x).1 List.mem_cons_self) (by simp)
  | x :: a, y :: b, ha, hb, h => by
    rw [List.pairwise_cons] at ha hb
    have e : x = y := by
      rcases List.mem_cons.1 ((h x).1 List.mem_cons_self) with e | h1
      · exact e
      rcases List.mem_cons.1 ((h y).2 List.mem_cons_self) with e | h2
      · exact e.symm
      exact absurd (ha.1 y h2) (ht _ _ (hb.1 x h1))
    subst e
    rw [rise_eq hi ht ha.2 hb.2 fun z => ?_]
    constructor
    · intro hz
      rcases List.mem_cons.1 ((h z).1 (List.mem_cons_of_mem _ hz)) with e | h1
      · subst e; exact absurd (ha.1 z hz) (hi z)
      · exact h1
    · intro hz
      rcases List.mem_cons.1 ((h z).2 (List.mem_cons_of_mem _ hz)) with e | h1
      · subst e; exact absurd (hb.1 z hz) (hi z)
      · exact h1
def emptyL (l : List Pair) : List Pair := l.filter fun q => q.1.size = 0
theorem size_l (p : Pair) : p.1.size = 0 ↔ p.l = [] := by
  show p.1.data.toList.length = 0 ↔ _
  exact List.length_eq_zero_iff
theorem lt_asymm' (x y : List UInt8) (h : Lt x y) : ¬ Lt y x := fun k => lt_irrefl _ (lt_trans' _ _ _ h k)
theorem rows_split {f : Nat} {l : List Pair} (h : RowsOk f l) : l = emptyL l ++ (List.range 16).flatMap fun i => cutL i l := by
  refine rise_eq (R := fun p q : Pair => Lt p.l q.l) (fun x => lt_irrefl _) (fun x y => lt_asymm' _ _) h.rise ?_ fun p => ?_
  · rw [List.pairwise_append]
    refine ⟨h.rise.filter _, ?_, fun p hp q hq => ?_⟩
    · have : ∀ n, ((List.range n).flatMap fun i => cutL i l).Pairwise fun p q : Pair => Lt p.l q.l := fun n => by
        induction n with
        | zero => simp
        | succ n ih =>
          rw [List.range_succ, List.flatMap_append, List.pairwise_append]
          refine ⟨ih, ?_, fun p hp q hq => ?_⟩
          · simpa using (cutL_ok n h).rise
          · obtain ⟨i, hi, hp⟩ := List.mem_flatMap.1 hp
            simp only [List.flatMap_cons, List.flatMap_nil, List.append_nil] at hq
            obtain ⟨_, a, r, e1, e2⟩ := cutL_mem hp
            obtain ⟨_, b, t, e3, e4⟩ := cutL_mem hq
            rw [e1, e3]
            have := List.mem_range.1 hi
            exact lt_cons.2 (.inl (UInt8.lt_iff_toNat_lt.2 (by omega)))
      exact this 16
    · obtain ⟨_, hz⟩ := List.mem_filter.1 hp
      obtain ⟨i, _, hq⟩ := List.mem_flatMap.1 hq
      obtain ⟨_, b, t, e3, _⟩ := cutL_mem hq
      rw [(size_l p).1 (by simpa using hz), e3]; exact nil_lt
  · rw [List.mem_append]
    constructor
    · intro hp
      cases hl : p.l with
      | nil => exact .inl (List.mem_filter.2 ⟨hp, by simpa using (size_l p).2 hl⟩)
      | cons x r =>
        have hx := nib_lt (h.size p hp).2.2.1 hl
        exact .inr (List.mem_flatMap.2 ⟨x.toNat, List.mem_range.2 hx, cut_in hp hl⟩)
    · rintro (hp | hp)
      · exact (List.mem_filter.1 hp).1
      · obtain ⟨i, _, hp⟩ := List.mem_flatMap.1 hp
        exact (cutL_mem hp).1
theorem empty_head {f : Nat} {l : List Pair} (h : RowsOk f l) (hn : l ≠ []) : emptyL l = if (l.getD 0 pd).1.size = 0 then [l.getD 0 pd] else [] := by
  cases l with
  | nil => exact absurd rfl hn
  | cons p r =>
    have hr : ∀ q ∈ r, ¬ q.1.size = 0 := fun q hq h0 => by
      have := (List.pairwise_cons.1 h.rise).1 q hq
      rw [(size_l q).1 h0] at this
      exact not_lt_nil _ this
    have he : r.filter (fun q : Pair => q.1.size = 0) = [] := by
      rw [List.filter_eq_nil_iff]; intro q hq; simpa using hr q hq
    show (p :: r).filter _ = if p.1.size = 0 then [p] else []
    rw [List.filter_cons, he]
    by_cases h0 : p.1.size = 0
    · rw [if_pos h0, if_pos (by simpa using h0)]
    · rw [if_neg h0, if_neg (by simpa using h0)]
/-! What is left to be looked at. -/
def absF (fr p : ByteArray) (l : List Pair) : List Pair := (l.map fun q => (p ++ q.1, q.2)).filter fun q => !lessB q.1 fr
theorem absF_app (fr p : ByteArray) (a b : List Pair) : absF fr p (a ++ b) = absF fr p a ++ absF fr p b := by unfold absF; rw [List.map_append, List.filter_append]
structure RefOk (Hs : ByteArray → Prop) (p : ByteArray) (f : Nat) (l : List Pair) : Prop where
  rows : RowsOk f l
  ne : l ≠ []
  has : ∀ x ∈ flatT (buildT (f + 1) l), 32 ≤ x.size → Hs x
  key : ∀ q ∈ l, keyOk (p ++ q.1) = true ∧ (p ++ q.1).size ≤ 12
def Den (Hs : ByteArray → Prop) (fr : ByteArray) (t : Pl5) (R : List Pair) (N : Nat) : Prop :=
  (t.value.size ≠ 0 ∧ keyOk t.path = true ∧ t.path.size ≤ 12 ∧ lessB t.path fr = false ∧ R = [(t.path, t.value)] ∧ N = 0) ∨
  (t.value = ⟨#[]⟩ ∧ ∃ f l, RefOk Hs t.path f l ∧ t.ref = refB (buildT (f + 1) l).text ∧ R = absF fr t.path l ∧ N = cntT f l)
def StackD (Hs : ByteArray → Prop) (fr : ByteArray) : List Pl5 → List Pair → Nat → Prop
  | [], R, N => R = [] ∧ N = 0
  | t :: ts, R, N => ∃ R1 R2 N1 N2, R = R1 ++ R2 ∧ N = N1 + N2 ∧ Den Hs fr t R1 N1 ∧ StackD Hs fr ts R2 N2
theorem StackD.app {Hs : ByteArray → Prop} {fr : ByteArray} : ∀ {a b : List Pl5} {R1 R2 : List Pair} {N1 N2 : Nat}, StackD Hs fr a R1 N1 → StackD Hs fr b R2 N2 → StackD Hs fr (a ++ b) (R1 ++ R2) (N1 + N2)
  | [], b, R1, R2, N1, N2, h, k => by
    obtain ⟨rfl, rfl⟩ := h
    rw [Nat.zero_add]; exact k
  | t :: a, b, R1, R2, N1, N2, h, k => by
    obtain ⟨Ra, Rb, Na, Nb, rfl, rfl, h1, h2⟩ := h
    exact ⟨Ra, Rb ++ R2, Na, Nb + N2, List.append_assoc _ _ _, Nat.add_assoc _ _ _, h1, h2.app k⟩
theorem StackD.one {Hs : ByteArray → Prop} {fr : ByteArray} {t : Pl5} {R : List Pair} {N : Nat} (h : Den Hs fr t R N) : StackD Hs fr [t] R N := ⟨R, [], N, 0, by simp, by simp, h, rfl, rfl⟩
/-- A path that is ahead, and no beginning, stays ahead. -/
theorem lt_app : ∀ {a b : List UInt8} (q : List UInt8), Lt a b → a.isPrefixOf b = false → Lt (a ++ q) b
  | [], b, q, _, h => by cases b <;> simp at h
  | x :: a, [], q, h, _ => absurd h (not_lt_nil _)
  | x :: a, y :: b, q, h, hp => by
    rw [List.cons_append]
    rcases lt_cons.1 h with h1 | ⟨h1, h2⟩
    · exact lt_cons.2 (.inl h1)
    · subst h1
      refine lt_cons.2 (.inr ⟨rfl, lt_app q h2 ?_⟩)
      simpa using hp
theorem app_toList (a b : ByteArray) : (a ++ b).data.toList = a.data.toList ++ b.data.toList := by rw [ByteArray.data_append, Array.toList_append]
theorem absF_none {fr p : ByteArray} (l : List Pair) (h1 : lessB p fr = true) (h2 : preB p fr = false) : absF fr p l = [] := by
  unfold absF
  rw [List.filter_eq_nil_iff]
  intro q hq
  obtain ⟨x, _, rfl⟩ := List.mem_map.1 hq
  have : lessB (p ++ x.1) fr = true := by
    rw [lessB_iff, app_toList]
    exact lt_app _ ((lessB_iff _ _).1 h1) h2
  simp [this]
theorem ref_pos {f : Nat} {l : List Pair} (h : RowsOk f l) (hn : l ≠ []) : (refB (buildT (f + 1) l).text).size ≠ 0 := ((good f l h).2.1 hn).may.1.pos
theorem ahead_den {Hs : ByteArray → Prop} (fr : ByteArray) {p : ByteArray} {f : Nat} {l : List Pair} (h : RefOk Hs p f l) : ∃ N, N ≤ cntT f l ∧ StackD Hs fr (aheadP fr p (refB (buildT (f + 1) l).text)) (absF fr p l) N := by
  unfold aheadP
  by_cases hc : lessB p fr = true ∧ preB p fr = false
  · rw [if_pos (.inr hc), absF_none l hc.1 hc.2]
    exact ⟨0, Nat.zero_le _, rfl, rfl⟩
  · rw [if_neg (fun e => e.elim (ref_pos h.rows h.ne) hc)]
    exact ⟨_, Nat.le_refl _, StackD.one (.inr ⟨rfl, f, l, h, rfl, rfl, rfl⟩)⟩
theorem entry_den {Hs : ByteArray → Prop} (fr p v : ByteArray) (hv : v.size ≠ 0) (hk : keyOk p = true) (hs : p.size ≤ 12) : StackD Hs fr (entryP fr p v) ([(p, v)].filter fun q => !lessB q.1 fr) 0 := by
  unfold entryP
  cases hl : lessB p fr with
  | true => rw [if_pos (.inr rfl)]; simp only [List.filter_cons, hl]; exact ⟨rfl, rfl⟩
  | false =>
    rw [if_neg (fun e => e.elim hv (by simp)), if_pos hk]
    simp only [List.filter_cons, hl, Bool.not_false, if_true, List.filter_nil]
    exact StackD.one (.inl ⟨hv, hk, hs, hl, rfl, rfl⟩)
theorem rev_flat {α : Type} (g : Nat → List α) (hg : ∀ i, (g i).reverse = g i) : ∀ l : List Nat, (l.reverse.flatMap g).reverse = l.flatMap g
  | [] => rfl
  | x :: l => by
    rw [List.reverse_cons, List.flatMap_append, List.reverse_append, rev_flat g hg l, List.flatMap_cons]
    simp [hg]
theorem ahead_rev (fr p r : ByteArray) : (aheadP fr p r).reverse = aheadP fr p r := by unfold aheadP; split <;> rfl
theorem entry_rev (fr p r : ByteArray) : (entryP fr p r).reverse = entryP fr p r := by
  unfold entryP; split
  · rfl
  · split <;> rfl
theorem nib_eq {x : UInt8} {i : Nat} (h : x.toNat = i) : UInt8.ofNat i = x := by subst h; exact UInt8.ofNat_toNat
theorem app_cut {p : ByteArray} {i k : Nat} {q : Pair} {x : UInt8} {r : List UInt8} (h : q.l = x :: r) (hx : x.toNat = i) : p ++ q.1 = (p ++ nib1 i) ++ q.1.extract 1 q.1.size := by
  refine ba_ext ?_
  rw [app_toList, app_toList, app_toList, ext_toList _ _ _ (Nat.le_refl _)]
  have h : q.1.data.toList = x :: r := h
  rw [h]
  unfold nib1
  rw [nib_eq hx]; simp
theorem app_pre {p : ByteArray} {k : Nat} {q : Pair} {a : ByteArray} (h : q.l.take k = a.data.toList) : p ++ q.1 = (p ++ a) ++ q.1.extract k q.1.size := by
  refine ba_ext ?_
  rw [app_toList, app_toList, app_toList, ext_toList _ _ _ (Nat.le_refl _), ← h, List.append_assoc]
  show _ ++ q.l = _ ++ (q.l.take k ++ q.l.drop k)
  rw [List.take_append_drop]
theorem absF_drop (fr p a : ByteArray) (k : Nat) (l : List Pair) (h : ∀ q ∈ l, p ++ q.1 = (p ++ a) ++ q.1.extract k q.1.size) : absF fr p l = absF fr (p ++ a) (dropL k l) := by
  unfold absF dropL
  rw [List.map_map]
  rw [List.map_congr_left fun q hq => by show (p ++ q.1, q.2) = ((p ++ a) ++ q.1.extract k q.1.size, q.2); rw [h q hq]]
  rfl
theorem getD_range (g : Nat → ByteArray) {i n : Nat} (h : i < n) : ((List.range n).map g).getD i ⟨#[]⟩ = g i := by
  rw [List.getD_eq_getElem?_getD, List.getElem?_map, List.getElem?_range h]; rfl
theorem down_den {Hs : ByteArray → Prop} (fr p : ByteArray) (f : Nat) (l : List Pair) (n : NodeT)
    (hn : ∀ i, i < 16 → n.refs.getD i ⟨#[]⟩ = if (cutL i l).length = 0 then ⟨#[]⟩ else refB (buildT (f + 1) (dropL 1 (cutL i l))).text)
    (hr : ∀ i, (cutL i l).length ≠ 0 → RefOk Hs (p ++ nib1 i) f (dropL 1 (cutL i l))) :
    ∀ k, k ≤ 16 → ∃ N, N ≤ sumF (fun i => if (cutL i l).length = 0 then 0 else cntT f (dropL 1 (cutL i l))) k ∧ StackD Hs fr ((List.range k).flatMap fun i => aheadP fr (p ++ nib1 i) (n.refs.getD i ⟨#[]⟩)) (absF fr p ((List.range k).flatMap fun i => cutL i l)) N := by
  intro k
  induction k with
  | zero => intro _; exact ⟨0, Nat.zero_le _, rfl, rfl⟩
  | succ k ih =>
    intro hk
    obtain ⟨N, h1, h2⟩ := ih (by omega)
    rw [List.range_succ, List.flatMap_append, List.flatMap_append, absF_app, sumF]
    simp only [List.flatMap_cons, List.flatMap_nil, List.append_nil]
    rw [hn k (by omega)]
    by_cases h0 : (cutL k l).length = 0
    · refine ⟨N + 0, by rw [if_pos h0]; omega, h2.app ?_⟩
      rw [if_pos h0, List.eq_nil_of_length_eq_zero h0]
      unfold aheadP
      rw [if_pos (.inl rfl)]
      exact ⟨rfl, rfl⟩
    · obtain ⟨M, h3, h4⟩ := ahead_den fr (hr k h0)
      refine ⟨N + M, by rw [if_neg h0]; omega, h2.app ?_⟩
      rw [if_neg h0, absF_drop fr p (nib1 k) 1 (cutL k l) fun q hq => ?_]
      · exact h4
      · obtain ⟨_, x, r, e1, e2⟩ := cutL_mem hq
        exact app_cut (k := 0) e1 e2
theorem flat_kid {f : Nat} {l m : List Pair} (hm : m ≠ []) (ho : RowsOk f m) (hk : heldK (buildT (f + 1) m) ⊆ belowF (buildT (f + 1)) l) : ∀ x ∈ flatT (buildT (f + 1) m), 32 ≤ x.size → x ∈ flatT (buildT (f + 1 + 1) l) := fun x hx h32 => by
  have eT : flatT (buildT (f + 1 + 1) l) = nodeB (nodeF (buildT (f + 1)) l) :: flatTs (belowF (buildT (f + 1)) l) := by
    show flatT (.mk (nodeB (nodeF (buildT (f + 1)) l)) (belowF (buildT (f + 1)) l)) = _
    rw [flatT]
  rw [eT]
  have hst := (good f m ho).2.1 hm
  by_cases hs : (buildT (f + 1) m).text.size < 32
  · rw [flat_small hst hs, List.mem_singleton] at hx
    subst hx; omega
  · refine List.mem_cons_of_mem _ (flatTs_mem.2 ⟨buildT (f + 1) m, hk ?_, hx⟩)
    unfold heldK; rw [if_neg hs]; exact List.mem_singleton.2 rfl
theorem lay_den {Hs : ByteArray → Prop} (fr : ByteArray) {p : ByteArray} : ∀ {f : Nat} {l : List Pair}, RefOk Hs p f l → ∃ N, N + 1 ≤ cntT f l ∧ StackD Hs fr (layP fr (nodeF (buildT f) l) p).reverse (absF fr p l) N := by
  intro f l h
  have h0 : l.length ≠ 0 := fun e => h.ne (List.eq_nil_of_length_eq_zero e)
  by_cases h1 : l.length = 1
  · obtain ⟨q, rfl⟩ := List.length_eq_one_iff.1 h1
    have eN : nodeF (buildT f) [q] = ⟨1, q.1, q.2, noRefs 16⟩ := rfl
    have hq := h.rows.size q List.mem_cons_self
    have hk := h.key q List.mem_cons_self
    rw [eN]
    unfold layP
    rw [if_pos rfl, entry_rev]
    refine ⟨0, ?_, entry_den fr (p ++ q.1) q.2 (by omega) hk.1 hk.2⟩
    cases f with
    | zero => exact Nat.le_refl _
    | succ f => rw [cntT]; omega
  have h2 : 2 ≤ l.length := by omega
  cases f with
  | zero => have := rows_one h.rows; omega
  | succ f =>
    have hcom := com_all h.rows h2
    by_cases hk : 0 < comK l
    · have hok : RowsOk f (dropL (comK l) l) := (dropL_ok (comK l) h.rows (fun p hp q hq => (hcom p hp).1.trans (hcom q hq).1.symm) (fun p hp => (hcom p hp).2)).mono (by omega)
      have hne : dropL (comK l) l ≠ [] := fun e => by have := dropL_len (comK l) l; rw [e] at this; simp at this; omega
      have eB : belowF (buildT (f + 1)) l = heldK (buildT (f + 1) (dropL (comK l) l)) := by
        unfold belowF; rw [if_neg (by omega), if_pos hk]
      have eN : nodeF (buildT (f + 1)) l = ⟨2, (l.getD 0 pd).1.extract 0 (comK l), ⟨#[]⟩, refB (buildT (f + 1) (dropL (comK l) l)).text :: noRefs 15⟩ := by unfold nodeF; rw [if_neg h0, if_neg h1, if_pos hk]
      have ea : ((l.getD 0 pd).1.extract 0 (comK l)).data.toList = (l.getD 0 pd).l.take (comK l) := by
        rw [ByteArray.data_extract, Array.toList_extract, List.extract_eq_take_drop]; simp
      have happ : ∀ q ∈ l, p ++ q.1 = (p ++ (l.getD 0 pd).1.extract 0 (comK l)) ++ q.1.extract (comK l) q.1.size := fun q hq => app_pre (by rw [ea]; exact (hcom q hq).1)
      have hR : RefOk Hs (p ++ (l.getD 0 pd).1.extract 0 (comK l)) f (dropL (comK l) l) := by
        refine ⟨hok, hne, fun x hx h32 => h.has x (flat_kid hne hok (by rw [eB]; exact fun _ hh => hh) x hx h32) h32, fun q' hq' => ?_⟩
        obtain ⟨q, hq, rfl⟩ := List.mem_map.1 hq'
        rw [← happ q hq]
        exact h.key q hq
      obtain ⟨N, i1, i2⟩ := ahead_den fr hR
      refine ⟨N, by rw [cntT, if_neg (by omega), if_pos hk]; omega, ?_⟩
      rw [eN]
      unfold layP
      rw [if_neg (show ¬ ((2 : Nat) = 1) by decide), if_pos rfl, ahead_rev, absF_drop fr p _ (comK l) l happ]
      exact i2
    · obtain ⟨rs, hrs⟩ : ∃ rs, rs = (List.range 16).map fun i => if (cutL i l).length = 0 then (⟨#[]⟩ : ByteArray) else refB (buildT (f + 1) (dropL 1 (cutL i l))).text := ⟨_, rfl⟩
      have eN : nodeF (buildT (f + 1)) l = ⟨3, ⟨#[]⟩, if (l.getD 0 pd).1.size = 0 then (l.getD 0 pd).2 else ⟨#[]⟩, rs⟩ := by unfold nodeF; rw [if_neg h0, if_neg h1, if_neg hk, hrs]
      have hkid : ∀ i, (cutL i l).length ≠ 0 → dropL 1 (cutL i l) ≠ [] := fun i hi e => by have := dropL_len 1 (cutL i l); rw [e] at this; simp at this; omega
      have hR : ∀ i, (cutL i l).length ≠ 0 → RefOk Hs (p ++ nib1 i) f (dropL 1 (cutL i l)) := fun i hi => by
        refine ⟨sub_ok i h.rows, hkid i hi, fun x hx h32 => h.has x (flat_kid (hkid i hi) (sub_ok i h.rows) ?_ x hx h32) h32, fun q' hq' => ?_⟩
        · obtain ⟨q, hq⟩ : ∃ q, q ∈ cutL i l := by
            cases hc : cutL i l with
            | nil => rw [hc] at hi; exact absurd rfl hi
            | cons q r => exact ⟨q, List.mem_cons_self⟩
          obtain ⟨hq1, x, r, e1, e2⟩ := cutL_mem hq
          have hx := nib_lt (h.rows.size q hq1).2.2.1 e1
          intro T hT
          unfold belowF
          rw [if_neg (by omega), if_neg hk]
          refine List.mem_flatMap.2 ⟨i, List.mem_range.2 (by omega), ?_⟩
          rw [if_neg hi]; exact hT
        · obtain ⟨q, hq, rfl⟩ := List.mem_map.1 hq'
          obtain ⟨hq1, x, r, e1, e2⟩ := cutL_mem hq
          rw [← app_cut (p := p) (k := 0) e1 e2]
          exact h.key q hq1
      obtain ⟨N, i1, i2⟩ := down_den fr p f l ⟨3, ⟨#[]⟩, if (l.getD 0 pd).1.size = 0 then (l.getD 0 pd).2 else ⟨#[]⟩, rs⟩ (fun i hi => by show rs.getD i ⟨#[]⟩ = _; rw [hrs, getD_range _ hi]) hR 16 (Nat.le_refl _)
      refine ⟨0 + N, by rw [cntT, if_neg (by omega), if_neg hk]; omega, ?_⟩
      rw [eN]
      unfold layP
      rw [if_neg (show ¬ ((3 : Nat) = 1) by decide), if_neg (show ¬ ((3 : Nat) = 2) by decide), if_pos rfl, List.reverse_append, entry_rev]
      unfold downP
      rw [rev_flat _ (fun i => ahead_rev _ _ _)]
      conv => arg 4; rw [rows_split h.rows, absF_app]
      refine StackD.app ?_ i2
      rw [empty_head h.rows h.ne]
      by_cases hz : (l.getD 0 pd).1.size = 0
      · simp only [if_pos hz]
        have hm : l.getD 0 pd ∈ l := by
          rw [List.getD_eq_getElem?_getD, List.getElem?_eq_getElem (by omega)]; exact List.getElem_mem _
        have hq := h.rows.size _ hm
        have hkk := h.key _ hm
        have e : p ++ (l.getD 0 pd).1 = p := by rw [ba_empty hz]; exact ByteArray.append_empty
        rw [e] at hkk
        have := entry_den (Hs := Hs) fr p (l.getD 0 pd).2 (by omega) hkk.1 hkk.2
        unfold absF
        simp only [List.map_cons, List.map_nil, e]
        exact this
      · simp only [if_neg hz]
        unfold entryP
        rw [if_pos (.inl rfl)]
        exact ⟨rfl, rfl⟩
end
end Go.Proofs.YtneojlgbcaejmaaGreatDoor
/- cursor: lay. -/
namespace Go.Proofs.YtneojlgbcaejmaaGreatDoor
section
open Go Go.RowKit
set_option linter.unusedSimpArgs false
set_option linter.unusedVariables false
attribute [local go_sem] Oper.semAt_some
theorem own_lt {W : World} {B : Nat} {T : TypeId} {sz : Nat} {v : Value} {n : Nat} {xs : List Value} (h : W.ownsRow B T sz v n xs) {b : Nat} (hb : v.ownBlock = some b) : b < W.heap.size := by
  obtain ⟨h1, h2 | ⟨g, cap, cur, h2, h3, h4, h5⟩⟩ := h
  · rw [h2.1] at hb; cases hb
  · rw [h2] at hb
    have e : some g = some b := hb
    obtain rfl := Option.some.inj e
    exact (Array.getElem?_eq_some_iff.1 h4).1
theorem LeftTo.blk {c s : Nat} {fr : ByteArray} {W W' : World} {v v' : Value} {ps : List Pl5} {lk : Int} (h : LeftTo c s fr W v W' v' ps lk) {b : Nat} {o : Obj} (hB : Blk W b o) (h1 : b ≠ c) (h2 : v.ownBlock ≠ some b) : Blk W' b o := hB.keeps h.kp (fun e => e.elim h1 h2)
def revJ (j : Nat) : List Nat := (List.range 16).reverse.take j
theorem revJ_step {j : Nat} (h : j < 16) : revJ (j + 1) = revJ j ++ [15 - j] := by
  unfold revJ
  have : (List.range 16).reverse[j]? = some (15 - j) := by
    rw [List.getElem?_reverse (by simpa using h), List.length_range, List.getElem?_range (by omega)]
  rw [List.take_add_one, this]; rfl
def downJ (fr : ByteArray) (n : NodeT) (p : ByteArray) (j : Nat) : List Pl5 := (revJ j).flatMap fun i => aheadP fr (p ++ nib1 i) (n.refs.getD i ⟨#[]⟩)
theorem downJ_step (fr : ByteArray) (n : NodeT) (p : ByteArray) {j : Nat} (h : j < 16) : downJ fr n p (j + 1) = downJ fr n p j ++ aheadP fr (p ++ nib1 (15 - j)) (n.refs.getD (15 - j) ⟨#[]⟩) := by
  unfold downJ; rw [revJ_step h, List.flatMap_append]; simp
theorem downJ_all (fr : ByteArray) (n : NodeT) (p : ByteArray) : downJ fr n p 16 = downP fr n p 16 := rfl
theorem ahead_len (fr p r : ByteArray) : (aheadP fr p r).length ≤ 1 := by unfold aheadP; split <;> simp
theorem entry_len (fr p r : ByteArray) : (entryP fr p r).length ≤ 1 := by
  unfold entryP; split
  · simp
  · split <;> simp
theorem flat_one {α β : Type} (g : α → List β) (hg : ∀ a, (g a).length ≤ 1) : ∀ l : List α, (l.flatMap g).length ≤ l.length
  | [] => by simp
  | x :: l => by
    have := flat_one g hg l
    have := hg x
    rw [List.flatMap_cons, List.length_append, List.length_cons]; omega
theorem downJ_len (fr : ByteArray) (n : NodeT) (p : ByteArray) (j : Nat) : (downJ fr n p j).length ≤ 16 := by
  have h1 := flat_one (fun i => aheadP fr (p ++ nib1 i) (n.refs.getD i ⟨#[]⟩)) (fun i => ahead_len _ _ _) (revJ j)
  have h2 : (revJ j).length ≤ 16 := by unfold revJ; rw [List.length_take]; simp; omega
  unfold downJ; omega
theorem lay_len (fr : ByteArray) (n : NodeT) (p : ByteArray) : (layP fr n p).length ≤ 17 := by
  unfold layP
  split
  · have := entry_len fr (p ++ n.path) n.value; omega
  · split
    · have := ahead_len fr (p ++ n.path) (n.refs.getD 0 ⟨#[]⟩); omega
    · split
      · have h1 := downJ_len fr n p 16
        rw [downJ_all] at h1
        have := entry_len fr p n.value
        rw [List.length_append]; omega
      · simp
set_option maxRecDepth 100000 in
set_option maxHeartbeats 4000000 in
theorem lay_leaf (W : World) (c s : Nat) (fr : ByteArray) (v : Value) (ps : List Pl5) (lk : Int) (h : LeftAt W c s fr v ps lk) (hps : ps.length ≤ 900000) (pa va : ByteArray) (rs : List ByteArray) (hr : rs.length = 16) (p : ByteArray) (hp : p.size + pa.size ≤ 900000) :
    Calls Tryz.prog 42 #[.pointer (some ⟨c, 0, none⟩), (NodeT.mk 1 pa va rs).V, .string p] W (LeftPost c s fr W v (ps ++ entryP fr (p ++ pa) va) lk) := by
  have hl : (NodeT.cells ⟨1, pa, va, rs⟩).length = 19 := NodeT.cells_len _ hr
  have HL := Lib.hid hl
  have H := Lib.hid h
  clear hl h
  unfold NodeT.V
  have e0 : (NodeT.cells ⟨1, pa, va, rs⟩)[0]? = some (.int .i64 1) := rfl
  have e1 : (NodeT.cells ⟨1, pa, va, rs⟩)[1]? = some (.string pa) := rfl
  have e2 : (NodeT.cells ⟨1, pa, va, rs⟩)[2]? = some (.string va) := rfl
  obtain ⟨qs, hqs⟩ : ∃ qs, qs = ps ++ entryP fr (p ++ pa) va := ⟨_, rfl⟩
  have HQ := Lib.hid hqs
  rw [← hqs]
  clear hqs
  go_enter Tryz.func42, Tryz.ntmps42
  go_wp2_with fail
  have hE : Ext W (W.alloc (.cells (NodeT.cells ⟨1, pa, va, rs⟩).toArray 76)) := (ExtR W).alloc _
  refine (entry_c _ c s fr v ps lk (H.out.ext hE) (by omega) (p ++ pa) va (by rw [ByteArray.size_append]; omega)).mono ?_
  rw [← HQ.out]
  rintro e w1 ⟨rfl, v1, hT⟩
  have HT := Lib.hid (LeftTo.ahead hE hT)
  clear hT hE
  go_wp2_with fail
  refine bodyPost_end (results_none rfl _ _ _) rfl ?_
  exact ⟨rfl, v1, HT.out⟩
set_option maxRecDepth 100000 in
set_option maxHeartbeats 4000000 in
theorem lay_ext (W : World) (c s : Nat) (fr : ByteArray) (v : Value) (ps : List Pl5) (lk : Int) (h : LeftAt W c s fr v ps lk) (hps : ps.length ≤ 900000) (hf : fr.size ≤ 1000000) (pa va r : ByteArray) (rs : List ByteArray) (hr : (r :: rs).length = 16) (p : ByteArray) (hp : p.size + pa.size ≤ 900000) :
    Calls Tryz.prog 42 #[.pointer (some ⟨c, 0, none⟩), (NodeT.mk 2 pa va (r :: rs)).V, .string p] W (LeftPost c s fr W v (ps ++ aheadP fr (p ++ pa) r) lk) := by
  have hl : (NodeT.cells ⟨2, pa, va, r :: rs⟩).length = 19 := NodeT.cells_len _ hr
  have HL := Lib.hid hl
  have H := Lib.hid h
  clear hl h
  unfold NodeT.V
  have e0 : (NodeT.cells ⟨2, pa, va, r :: rs⟩)[0]? = some (.int .i64 2) := rfl
  have e1 : (NodeT.cells ⟨2, pa, va, r :: rs⟩)[1]? = some (.string pa) := rfl
  have e3 : (NodeT.cells ⟨2, pa, va, r :: rs⟩)[3]? = some (.string r) := rfl
  obtain ⟨qs, hqs⟩ : ∃ qs, qs = ps ++ aheadP fr (p ++ pa) r := ⟨_, rfl⟩
  have HQ := Lib.hid hqs
  rw [← hqs]
  clear hqs
  go_enter Tryz.func42, Tryz.ntmps42
  go_wp2_with fail
  have hE : Ext W (W.alloc (.cells (NodeT.cells ⟨2, pa, va, r :: rs⟩).toArray 76)) := (ExtR W).alloc _
  refine (ahead_cur _ c s fr v ps lk (H.out.ext hE) (by omega) (p ++ pa) r (by rw [ByteArray.size_append]; omega) hf).mono ?_
  rw [← HQ.out]
  rintro e w1 ⟨rfl, v1, hT⟩
  have HT := Lib.hid (LeftTo.ahead hE hT)
  clear hT hE
  go_wp2_with fail
  refine bodyPost_end (results_none rfl _ _ _) rfl ?_
  exact ⟨rfl, v1, HT.out⟩
theorem exec_conv_lit {F : BSet} {w2 w3 : World} {m : Nat} {a : Act} {o : Oper} (ho : execOp a.eval o = (do pure (.value (← convert 52 9 (.slice (some ⟨w2.heap.size, 0, none⟩) 1 1)))))
    (h : Keeps F (w2.alloc (.cells #[.int .u8 (m : Int)] 5)) w3) (hF : ¬ F w2.heap.size) (hm : m < 16) : (execOp a.eval o).run Tryz.prog w3 = .ok (.value (.string (nib1 m))) w3 := by
  have hB := (Blk.new w2 (.cells #[.int .u8 (m : Int)] 5)).keeps h hF
  have hbm : (m : Int) = ((UInt8.ofNat m).toNat : Int) := by rw [u8_of m (by omega)]
  have hO : w3.ownsRow 0 5 1 (.slice (some ⟨w2.heap.size, 0, none⟩) 1 1) 1 (bytesV [UInt8.ofNat m]) :=
    ⟨rfl, .inr ⟨_, 1, _, rfl, Nat.zero_le _, hB, Nat.le_refl _, by unfold maxLen; omega, rfl, by rw [hbm]; rfl⟩⟩
  have hc := run_string_row w3 Tryz.uBytes Tryz.uU8 Tryz.uStr hO
  rw [ho, Sem.run_bind, hc]
  rfl
def LyRel (c s : Nat) (fr : ByteArray) (W1 : World) (v : Value) (ps : List Pl5) (lk : Int) (n : NodeT) (p : ByteArray) (iv : Value) (wr : World) : Prop := ∃ j : Nat, j ≤ 16 ∧ iv = .int .i64 (15 - (j : Int)) ∧ ∃ v', LeftTo c s fr W1 v wr v' (ps ++ downJ fr n p j) lk
theorem Tryz.enterAheadCur : ∀ args w, (callFunc 62 args).run Tryz.prog w = .ok (.enter 62 args) w := fun _ _ => by kernel_rfl
set_option maxRecDepth 100000 in
set_option maxHeartbeats 4000000 in
theorem lay_branch (W : World) (c s : Nat) (fr : ByteArray) (v : Value) (ps : List Pl5) (lk : Int) (h : LeftAt W c s fr v ps lk) (hps : ps.length ≤ 900000) (hf : fr.size ≤ 1000000) (pa va : ByteArray) (rs : List ByteArray) (hr : rs.length = 16) (p : ByteArray) (hp : p.size + pa.size ≤ 900000) :
    Calls Tryz.prog 42 #[.pointer (some ⟨c, 0, none⟩), (NodeT.mk 3 pa va rs).V, .string p] W (LeftPost c s fr W v (ps ++ (downP fr ⟨3, pa, va, rs⟩ p 16 ++ entryP fr p va)) lk) := by
  have hl : (NodeT.cells ⟨3, pa, va, rs⟩).length = 19 := NodeT.cells_len _ hr
  have HL := Lib.hid hl
  have HR := Lib.hid hr
  have H := Lib.hid h
  clear hl h hr
  unfold NodeT.V
  have e0 : (NodeT.cells ⟨3, pa, va, rs⟩)[0]? = some (.int .i64 3) := rfl
  have e2 : (NodeT.cells ⟨3, pa, va, rs⟩)[2]? = some (.string va) := rfl
  obtain ⟨qs, hqs⟩ : ∃ qs, qs = ps ++ (downP fr ⟨3, pa, va, rs⟩ p 16 ++ entryP fr p va) := ⟨_, rfl⟩
  have HQ := Lib.hid hqs
  rw [← hqs]
  clear hqs
  go_enter Tryz.func42, Tryz.ntmps42
  go_wp2_with fail
  have hE : Ext W (W.alloc (.cells (NodeT.cells ⟨3, pa, va, rs⟩).toArray 76)) := (ExtR W).alloc _
  have hB := Blk.new W (.cells (NodeT.cells ⟨3, pa, va, rs⟩).toArray 76)
  obtain ⟨W1, hW1⟩ : ∃ W1, W1 = W.alloc (.cells (NodeT.cells ⟨3, pa, va, rs⟩).toArray 76) := ⟨_, rfl⟩
  rw [← hW1] at hE hB ⊢
  have hne : v.ownBlock ≠ some W.heap.size := fun e => by have := own_lt H.out.row e; omega
  have hnc : W.heap.size ≠ c := by have := H.out.cur.lt; omega
  have HE := Lib.hid hE
  have HB := Lib.hid hB
  have HN := Lib.hid (And.intro hne hnc)
  have HZ := Lib.hid (show W1.heap.size = W.heap.size + 1 by rw [hW1]; simp)
  clear hW1 hE hB hne hnc
  go_loopw [6] (fun iv wr => LyRel c s fr W1 v ps lk ⟨3, pa, va, rs⟩ p iv wr) (fun iv _ => (intOf iv + 1).toNat)
  case atStart => exact ⟨0, by omega, rfl, v, by rw [show downJ fr ⟨3, pa, va, rs⟩ p 0 = [] from rfl, List.append_nil]; exact LeftTo.refl (H.out.ext HE.out)⟩
  case round =>
    obtain ⟨j, hj, rfl, v', hT⟩ := hrel
    have HT := Lib.hid hT
    have HNB := Lib.hid (hT.blk HB.out HN.out.2 HN.out.1)
    clear hT
    by_cases hlt : j < 16
    · obtain ⟨m, hm⟩ : ∃ m, m = 15 - j := ⟨_, rfl⟩
      have hmi : (15 : Int) - (j : Int) = (m : Int) := by omega
      have hm16 : m < 16 := by omega
      rw [hmi]
      have b1 : (0 : Int) ≤ (m : Int) := by omega
      have b2 : ¬ (m : Int) < 0 := by omega
      have b3 : (m : Int) < 16 := by omega
      have b4 : (m : Int).toNat = m := by omega
      have HM := Lib.hid (And.intro hm hmi)
      obtain ⟨r, hr⟩ : ∃ r, rs[m]? = some r := ⟨_, List.getElem?_eq_getElem (by rw [HR.out]; exact hm16)⟩
      have HRM := Lib.hid hr
      have Q3 := Lib.hid (HNB.out.cellL (i := 3 + m) (v := .string r) (by
        show (_ :: _ :: _ :: rs.map Value.string)[3 + m]? = _
        rw [show 3 + m = m + 1 + 1 + 1 by omega]
        simp [HRM.out]))
      have NB : Hid (v'.ownBlock ≠ some wr.heap.size ∧ wr.heap.size ≠ c) := Lib.hid ⟨fun e => by have := own_lt HT.out.at'.row e; omega, by have := HT.out.at'.cur.lt; omega⟩
      have b5 : ¬ (9223372036854775807 < p.size + (nib1 m).size) := by show ¬ (_ < p.size + 1); omega
      have NV := Lib.hid (show ¬ (W.heap.size = c ∨ v'.ownBlock = some W.heap.size) from fun e => by
        rcases e with e | e
        · exact HN.out.2 e
        · rcases HT.out.new with h1 | h1
          · exact HN.out.1 (h1 ▸ e)
          · have := h1 _ e; have := HZ.out; omega)
      clear hm hmi hr
      go_wp2_with fail
      refine wp_region_mixD [0,1,2,3,7,8,9,10,4,5,6,11] [4,11] Ext (Keeps (fun b => b = c ∨ v'.ownBlock = some b)) ExtR ExtT (fun x y z h k => Keeps.trans h k) (fun x y h => h.mono (fun _ _ h => h.elim)) (by kernel_rfl) (by kernel_rfl) (by kernel_rfl) ?_
      iterate 7 (refine mixd_pure _ rfl (by kernel_rfl) rfl rfl (fun K hK => ?_); go_big_quiet_op; refine hK _ ?_; clear hK K)
      refine mixd_load ⟨W.heap.size, 3 + m, none⟩ _ rfl (by kernel_rfl) rfl rfl (fun w2 h2 => run_load_plain Tryz.uStr rfl (cell_keeps (cell_ext (by exact Q3.out) (drewE _)) h2 NV.out)) ?_
      simp only [Act.put, List.setIfInBounds_toArray, List.set_cons_zero, List.set_cons_succ]
      refine mixd_hard _ rfl (by kernel_rfl) rfl (fun w2 he K hK => ?_)
      have HX2 := Lib.hid (show Ext wr w2 from (drewE _).trans he)
      clear he
      go_simp
      refine hK _ _ ((Keeps.refl _ w2).alloc _) ?_
      clear hK K
      refine mixd_val _ (.string (nib1 m)) rfl (by kernel_rfl) rfl (fun w3 h3 => exec_conv_lit (by kernel_rfl) h3 (fun e => e.elim (fun e => by have := (HT.out.at'.cur).lt; have := HX2.out.size; omega) (fun e => by have := own_lt HT.out.at'.row e; have := HX2.out.size; omega)) hm16) ?_
      simp only [Act.put, List.setIfInBounds_toArray, List.set_cons_zero, List.set_cons_succ]
      refine mixd_pure _ rfl (by kernel_rfl) rfl rfl (fun K hK => ?_); go_big_quiet_op; refine hK _ ?_; clear hK K
      refine mixd_hard _ rfl (by kernel_rfl) rfl (fun w4 he K hK => ?_)
      have HX4 := Lib.hid (show Ext wr w4 from (HX2.out.alloc _).trans he)
      clear he
      refine wp_callop (exec_call Tryz.enterAheadCur (by kernel_rfl)) ((ahead_cur w4 c s fr v' _ lk (HT.out.at'.ext HX4.out) (by have := downJ_len fr ⟨3, pa, va, rs⟩ p j; rw [List.length_append]; omega) (p ++ nib1 m) r (by rw [ByteArray.size_append]; show p.size + 1 ≤ _; omega) hf).mono ?_)
      rintro e w5 ⟨rfl, v5, hT5⟩
      have hq : ps ++ downJ fr ⟨3, pa, va, rs⟩ p j ++ aheadP fr (p ++ nib1 m) r = ps ++ downJ fr ⟨3, pa, va, rs⟩ p (j + 1) := by
        rw [downJ_step fr _ p hlt, List.append_assoc, ← HM.out.1]
        have : (NodeT.mk 3 pa va rs).refs.getD m ⟨#[]⟩ = r := by show rs.getD m ⟨#[]⟩ = r; rw [List.getD_eq_getElem?_getD, HRM.out]; rfl
        rw [this]
      rw [hq] at hT5
      have HT5 := Lib.hid hT5
      refine ⟨_, rfl, hK _ _ hT5.kp ?_⟩
      clear hK K hT5 hq
      simp only [Act.put, List.setIfInBounds_toArray, List.set_cons_zero, List.set_cons_succ]
      refine mixd_end (by kernel_rfl) (fun w6 he => ?_)
      have HT6 := Lib.hid (HT.out.trans ((LeftTo.ahead HX4.out HT5.out).ext he))
      clear he
      go_wp2_with fail
      go_roundw
      case rel => exact ⟨j + 1, by omega, by have := HM.out.2; have := HM.out.1; simp; omega, v5, HT6.out⟩
      case measure => simp [intOf]
    · obtain rfl : j = 16 := by omega
      have b1 : (15 : Int) - ((16 : Nat) : Int) = -1 := by omega
      rw [b1]
      have q2 := HNB.out.cellL (i := 2) (v := .string va) e2
      go_wp2_with fail
      refine (entry_c wr c s fr v' _ lk HT.out.at' (by have := downJ_len fr ⟨3, pa, va, rs⟩ p 16; rw [List.length_append]; omega) p va (by omega)).mono ?_
      rintro e w1 ⟨rfl, v1, hT⟩
      have hq : ps ++ downJ fr ⟨3, pa, va, rs⟩ p 16 ++ entryP fr p va = qs := by rw [HQ.out, downJ_all, List.append_assoc]
      rw [hq] at hT
      have HT2 := Lib.hid (LeftTo.ahead HE.out (HT.out.trans hT))
      clear hT hq
      go_wp2_with fail
      refine bodyPost_end (results_none rfl _ _ _) rfl ?_
      exact ⟨rfl, v1, HT2.out⟩
set_option maxRecDepth 100000 in
set_option maxHeartbeats 4000000 in
theorem lay_none (W : World) (c s : Nat) (fr : ByteArray) (v : Value) (ps : List Pl5) (lk : Int) (h : LeftAt W c s fr v ps lk) (pa va : ByteArray) (rs : List ByteArray) (hr : rs.length = 16) (p : ByteArray) :
    Calls Tryz.prog 42 #[.pointer (some ⟨c, 0, none⟩), (NodeT.mk 0 pa va rs).V, .string p] W (LeftPost c s fr W v ps lk) := by
  have hl : (NodeT.cells ⟨0, pa, va, rs⟩).length = 19 := NodeT.cells_len _ hr
  have HL := Lib.hid hl
  have H := Lib.hid h
  clear hl h
  unfold NodeT.V
  have e0 : (NodeT.cells ⟨0, pa, va, rs⟩)[0]? = some (.int .i64 0) := rfl
  go_enter Tryz.func42, Tryz.ntmps42
  go_wp2_with fail
  refine bodyPost_end (results_none rfl _ _ _) rfl ?_
  exact ⟨rfl, v, (LeftTo.refl H.out).ext ((ExtR W).alloc _)⟩
theorem lay_c (W : World) (c s : Nat) (fr : ByteArray) (v : Value) (ps : List Pl5) (lk : Int) (h : LeftAt W c s fr v ps lk) (hps : ps.length ≤ 900000) (hf : fr.size ≤ 1000000) (n : NodeT) (hk : n.kind ≤ 3) (hr : n.refs.length = 16) (p : ByteArray) (hp : p.size + n.path.size ≤ 900000) :
    Calls Tryz.prog 42 #[.pointer (some ⟨c, 0, none⟩), n.V, .string p] W (LeftPost c s fr W v (ps ++ layP fr n p) lk) := by
  obtain ⟨k, pa, va, rs⟩ := n
  have hk : k ≤ 3 := hk
  have hr : rs.length = 16 := hr
  rcases Nat.lt_or_ge 0 k with h0 | h0
  · rcases Nat.lt_or_ge 1 k with h1 | h1
    · rcases Nat.lt_or_ge 2 k with h2 | h2
      · obtain rfl : k = 3 := by omega
        have e : layP fr ⟨3, pa, va, rs⟩ p = downP fr ⟨3, pa, va, rs⟩ p 16 ++ entryP fr p va := by
          unfold layP; rw [if_neg (show ¬ ((3 : Nat) = 1) by decide), if_neg (show ¬ ((3 : Nat) = 2) by decide), if_pos rfl]
        rw [e]
        exact lay_branch W c s fr v ps lk h hps hf pa va rs hr p hp
      · obtain rfl : k = 2 := by omega
        cases rs with
        | nil => simp at hr
        | cons r rs =>
          have e : layP fr ⟨2, pa, va, r :: rs⟩ p = aheadP fr (p ++ pa) r := by
            unfold layP; rw [if_neg (show ¬ ((2 : Nat) = 1) by decide), if_pos rfl]; rfl
          rw [e]
          exact lay_ext W c s fr v ps lk h hps hf pa va r rs hr p hp
    · obtain rfl : k = 1 := by omega
      have e : layP fr ⟨1, pa, va, rs⟩ p = entryP fr (p ++ pa) va := by unfold layP; rw [if_pos rfl]
      rw [e]
      exact lay_leaf W c s fr v ps lk h hps pa va rs hr p hp
  · obtain rfl : k = 0 := by omega
    have e : layP fr ⟨0, pa, va, rs⟩ p = [] := by
      unfold layP; rw [if_neg (show ¬ ((0 : Nat) = 1) by decide), if_neg (show ¬ ((0 : Nat) = 2) by decide), if_neg (show ¬ ((0 : Nat) = 3) by decide)]
    rw [e, List.append_nil]
    exact lay_none W c s fr v ps lk h pa va rs hr p
end
end Go.Proofs.YtneojlgbcaejmaaGreatDoor
