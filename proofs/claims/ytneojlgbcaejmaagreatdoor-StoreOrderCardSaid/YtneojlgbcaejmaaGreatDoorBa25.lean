/- Parts of the proof, one behind the other: GrowA, CanonPb, FewB, SmallA, CurA. Each is under no condition but those that it states. -/
import Derived.Test.YtneojlgbcaejmaaGreatDoorBa24
import Derived.Test.YtneojlgbcaejmaaGreatDoorBa10
import Derived.Test.YtneojlgbcaejmaaGreatDoorBa4
/- canon, plain: how many nodes a trie has; each value stands in one of them. -/
namespace Go.Proofs.YtneojlgbcaejmaaGreatDoor
section
open Go Go.RowKit
set_option linter.unusedSimpArgs false
set_option linter.unusedVariables false
/-- A text stands in another one. -/
def Inf (v t : ByteArray) : Prop := v.data.toList <:+: t.data.toList
theorem Inf.trans {a b c : ByteArray} (h : Inf a b) (k : Inf b c) : Inf a c := List.IsInfix.trans h k
theorem Inf.rfl' (a : ByteArray) : Inf a a := List.infix_refl _
theorem inf_append_right (a b : ByteArray) : Inf b (a ++ b) := ⟨a.data.toList, [], by rw [ByteArray.data_append, Array.toList_append, List.append_nil]⟩
theorem inf_text (v : ByteArray) : Inf v (textB v) := by
  unfold textB; split
  · exact Inf.rfl' v
  · exact inf_append_right _ _
theorem inf_cat {x : ByteArray} : ∀ {l : List ByteArray}, x ∈ l → Inf x (catB l)
  | y :: l, h => by
    rcases List.mem_cons.1 h with rfl | h
    · refine ⟨[], (l.map (·.data.toList)).flatten, ?_⟩
      show _ = x.data.toList ++ (l.map (·.data.toList)).flatten
      simp
    · obtain ⟨s, t, e⟩ := inf_cat h
      have e : s ++ x.data.toList ++ t = (l.map (·.data.toList)).flatten := e
      refine ⟨y.data.toList ++ s, t, ?_⟩
      show _ = y.data.toList ++ (l.map (·.data.toList)).flatten
      rw [← e]; simp
theorem inf_list {x : ByteArray} {l : List ByteArray} (h : x ∈ l) : Inf x (listB l) := (inf_cat h).trans (inf_append_right _ _)
/-- What stands in a kid's texts stands in those that are held, or in its ref. -/
theorem Stands.inf {f : Nat} {T : PT} {n : NodeT} (h : Stands f T n) {v t : ByteArray} (ht : t ∈ flatT T) (hv : Inf v t) : (∃ t ∈ flatTs (heldK T), Inf v t) ∨ Inf v (refB T.text) := by
  by_cases hs : T.text.size < 32
  · have hk := h.small hs
    obtain ⟨x, ks⟩ := T
    have hk : ks = [] := hk
    subst hk
    unfold flatT flatTs at ht
    rw [List.mem_singleton] at ht
    right
    unfold refB; rw [if_pos hs, ← (show t = (PT.mk x []).text from ht)]; exact hv
  · left
    refine ⟨t, ?_, hv⟩
    unfold heldK; rw [if_neg hs, flatTs_mem]
    exact ⟨T, List.mem_singleton.2 rfl, ht⟩
/-- How many parts of rows there are, by their first nibbles. -/
def partsN (l : List Pair) : Nat → Nat
  | 0 => 0
  | n + 1 => partsN l n + (if (cutL n l).length = 0 then 0 else 1)
theorem parts_mono (l : List Pair) (n : Nat) : ∀ d, partsN l n ≤ partsN l (n + d)
  | 0 => Nat.le_refl _
  | d + 1 => by have := parts_mono l n d; rw [show n + (d + 1) = (n + d) + 1 from rfl, partsN]; omega
theorem parts_one {l : List Pair} {i n : Nat} (h : (cutL i l).length ≠ 0) (hi : i < n) : 1 ≤ partsN l n := by
  have := parts_mono l (i + 1) (n - (i + 1))
  rw [show i + 1 + (n - (i + 1)) = n by omega, partsN, if_neg h] at this
  omega
theorem parts_two {l : List Pair} {i j n : Nat} (h : (cutL i l).length ≠ 0) (hj : (cutL j l).length ≠ 0) (hij : i < j) (hn : j < n) : 2 ≤ partsN l n := by
  have h1 := parts_one h hij
  have := parts_mono l (j + 1) (n - (j + 1))
  rw [show j + 1 + (n - (j + 1)) = n by omega, partsN, if_neg hj] at this
  omega
theorem ks_grow (B : List Pair → PT) (l : List Pair) (hB : ∀ i, (cutL i l).length ≠ 0 → (flatT (B (dropL 1 (cutL i l)))).length + 2 ≤ 3 * (cutL i l).length) : ∀ n, (flatTs (ksK B l n)).length + 2 * partsN l n ≤ 3 * cutSum l n
  | 0 => by simp [ksK, flatTs, cutSum, partsN]
  | n + 1 => by
    rw [ksK_step, flatTs_append, List.length_append, cutSum, partsN]
    have := ks_grow B l hB n
    by_cases h0 : (cutL n l).length = 0
    · rw [if_pos h0, if_pos h0]; simp [flatTs]; omega
    · rw [if_neg h0, if_neg h0]
      have h1 := hB n h0
      have h2 := held_le (B (dropL 1 (cutL n l)))
      omega
theorem cutSum_lt {l : List Pair} (h : ∃ p ∈ l, p.l = []) (n : Nat) : cutSum l n + 1 ≤ l.length := by
  obtain ⟨p, hp, e⟩ := h
  induction l with
  | nil => cases hp
  | cons q r ih =>
    rw [cutSum_cons, List.length_cons]
    rcases List.mem_cons.1 hp with rfl | hp
    · have := cutSum_le r n
      rw [e]
      have : hN [] n = 0 := rfl
      omega
    · have := ih hp
      have := hN_le q.l n
      omega
theorem cut_in {l : List Pair} {p : Pair} {x : UInt8} {r : List UInt8} (hp : p ∈ l) (hpx : p.l = x :: r) : p ∈ cutL x.toNat l := List.mem_filter.2 ⟨hp, by unfold pickB; rw [show p.1.data.toList = x :: r from hpx]; simp⟩
theorem cut_len {l : List Pair} {p : Pair} {x : UInt8} {r : List UInt8} (hp : p ∈ l) (hpx : p.l = x :: r) : (cutL x.toNat l).length ≠ 0 := fun h0 => by
  have := cut_in hp hpx
  rw [List.eq_nil_of_length_eq_zero h0] at this; cases this
theorem drop_mem {k : Nat} {l : List Pair} {p : Pair} (h : p ∈ l) : ∃ q ∈ dropL k l, q.2 = p.2 := ⟨_, List.mem_map_of_mem h, rfl⟩
structure GrowP (T : PT) (l : List Pair) : Prop where
  all : (flatT T).length + 2 ≤ 3 * l.length
  two : 2 ≤ l.length → comK l = 0 → (flatT T).length + 3 ≤ 3 * l.length
  inf : ∀ p ∈ l, ∃ t ∈ flatT T, Inf p.2 t
theorem grow_one (f : Nat) {l : List Pair} (h : l.length = 1) : GrowP (buildT (f + 1) l) l := by
  obtain ⟨p, rfl⟩ := List.length_eq_one_iff.1 h
  have e : flatT (buildT (f + 1) [p]) = [leafB ⟨1, p.1, p.2, noRefs 16⟩] := by
    show flatT (.mk (nodeB (nodeF (buildT f) [p])) (belowF (buildT f) [p])) = _
    have h1 : nodeF (buildT f) [p] = ⟨1, p.1, p.2, noRefs 16⟩ := rfl
    have h2 : belowF (buildT f) [p] = [] := rfl
    rw [h1, h2]; rfl
  refine ⟨by rw [e]; simp, fun h2 => by simp at h2, fun q hq => ?_⟩
  rw [List.mem_singleton] at hq; subst hq
  rw [e]
  refine ⟨_, List.mem_singleton.2 rfl, (inf_text q.2).trans ?_⟩
  unfold leafB; exact inf_list (by simp)
theorem grow : ∀ (f : Nat) (l : List Pair), RowsOk f l → l ≠ [] → GrowP (buildT (f + 1) l) l := by
  intro f
  induction f with
  | zero =>
    intro l h hn
    have h0 : l.length ≠ 0 := fun e => hn (List.eq_nil_of_length_eq_zero e)
    have hl : l.length ≤ 1 := by
      rcases Nat.lt_or_ge l.length 2 with h2 | h2
      · omega
      · obtain ⟨a, ha⟩ : ∃ a, l[0]? = some a := ⟨_, List.getElem?_eq_getElem (by omega)⟩
        obtain ⟨b, hb⟩ : ∃ b, l[1]? = some b := ⟨_, List.getElem?_eq_getElem (by omega)⟩
        have hlt := pair_get h.rise (by omega) ha hb
        have := (h.size b (List.mem_of_getElem? hb)).1
        rw [show b.l = [] from List.eq_nil_of_length_eq_zero (by show b.1.size = 0; omega)] at hlt
        exact absurd hlt (not_lt_nil _)
    exact grow_one 0 (by omega)
  | succ f ih =>
    intro l h hn
    have h0 : l.length ≠ 0 := fun e => hn (List.eq_nil_of_length_eq_zero e)
    by_cases h1 : l.length = 1
    · exact grow_one (f + 1) h1
    have h2 : 2 ≤ l.length := by omega
    have hcom := com_all h h2
    have eT : flatT (buildT (f + 1 + 1) l) = nodeB (nodeF (buildT (f + 1)) l) :: flatTs (belowF (buildT (f + 1)) l) := by
      show flatT (.mk (nodeB (nodeF (buildT (f + 1)) l)) (belowF (buildT (f + 1)) l)) = _
      rw [flatT]
    by_cases hk : 0 < comK l
    · have hok : RowsOk f (dropL (comK l) l) := (dropL_ok (comK l) h (fun p hp q hq => (hcom p hp).1.trans (hcom q hq).1.symm) (fun p hp => (hcom p hp).2)).mono (by omega)
      have hne : dropL (comK l) l ≠ [] := fun e => by have := dropL_len (comK l) l; rw [e] at this; simp at this; omega
      have hg := ih _ hok hne
      obtain ⟨_, i2, _⟩ := good f _ hok
      have hst := i2 hne
      have eB : belowF (buildT (f + 1)) l = heldK (buildT (f + 1) (dropL (comK l) l)) := by
        unfold belowF; rw [if_neg (by omega), if_pos hk]
      have eN : nodeF (buildT (f + 1)) l = ⟨2, (l.getD 0 pd).1.extract 0 (comK l), ⟨#[]⟩, refB (buildT (f + 1) (dropL (comK l) l)).text :: noRefs 15⟩ := by unfold nodeF; rw [if_neg h0, if_neg h1, if_pos hk]
      have hlen := hg.two (by rw [dropL_len]; omega) (comK_drop (by omega))
      rw [dropL_len] at hlen
      have hh := held_le (buildT (f + 1) (dropL (comK l) l))
      refine ⟨by rw [eT, eB, List.length_cons]; omega, fun _ hz => by omega, fun p hp => ?_⟩
      obtain ⟨q, hq, e2⟩ := drop_mem (k := comK l) hp
      obtain ⟨t, ht, hv⟩ := hg.inf q hq
      rw [e2] at hv
      rw [eT, eB]
      rcases hst.inf ht hv with ⟨t', ht', hv'⟩ | hv'
      · exact ⟨t', List.mem_cons_of_mem _ ht', hv'⟩
      · refine ⟨_, List.mem_cons_self, hv'.trans ?_⟩
        have : nodeB (nodeF (buildT (f + 1)) l) = extB (nodeF (buildT (f + 1)) l) := by rw [eN]; rfl
        rw [this, eN]; unfold extB; exact inf_list (by simp)
    · have hkid : ∀ i, (cutL i l).length ≠ 0 → dropL 1 (cutL i l) ≠ [] := fun i hi e => by have := dropL_len 1 (cutL i l); rw [e] at this; simp at this; omega
      have hg : ∀ i, (cutL i l).length ≠ 0 → GrowP (buildT (f + 1) (dropL 1 (cutL i l))) (dropL 1 (cutL i l)) := fun i hi => ih _ (sub_ok i h) (hkid i hi)
      have hst : ∀ i, (cutL i l).length ≠ 0 → Stands f (buildT (f + 1) (dropL 1 (cutL i l))) (nodeF (buildT f) (dropL 1 (cutL i l))) := fun i hi => (good f _ (sub_ok i h)).2.1 (hkid i hi)
      have eB : belowF (buildT (f + 1)) l = ksK (buildT (f + 1)) l 16 := by
        unfold belowF; rw [if_neg (by omega), if_neg hk]; rfl
      obtain ⟨a, ha⟩ : ∃ a, l[0]? = some a := ⟨_, List.getElem?_eq_getElem (by omega)⟩
      obtain ⟨b, hb⟩ : ∃ b, l[l.length - 1]? = some b := ⟨_, List.getElem?_eq_getElem (by omega)⟩
      have ga : l.getD 0 pd = a := by rw [List.getD_eq_getElem?_getD, ha]; rfl
      have gb : l.getD (l.length - 1) pd = b := by rw [List.getD_eq_getElem?_getD, hb]; rfl
      have ham := List.mem_of_getElem? ha
      have hbm := List.mem_of_getElem? hb
      have hlt := pair_get h.rise (by omega) ha hb
      obtain ⟨rs, hrs⟩ : ∃ rs, rs = (List.range 16).map fun i => if (cutL i l).length = 0 then (⟨#[]⟩ : ByteArray) else refB (buildT (f + 1) (dropL 1 (cutL i l))).text := ⟨_, rfl⟩
      have eN : nodeF (buildT (f + 1)) l = ⟨3, ⟨#[]⟩, if a.1.size = 0 then a.2 else ⟨#[]⟩, rs⟩ := by unfold nodeF; rw [if_neg h0, if_neg h1, if_neg hk, ga, hrs]
      have hlen : (flatTs (belowF (buildT (f + 1)) l)).length + 4 ≤ 3 * l.length := by
        rw [eB]
        have hks := ks_grow (buildT (f + 1)) l (fun i hi => by have := (hg i hi).all; rwa [dropL_len] at this) 16
        have hkc : common a.l b.l = 0 := by have : comK l = common a.l b.l := by unfold comK commonN; rw [ga, gb]
                                            omega
        cases hbl : b.l with
        | nil => rw [hbl] at hlt; exact absurd hlt (not_lt_nil _)
        | cons y t =>
          have hy := nib_lt (h.size b hbm).2.2.1 hbl
          have cb := cut_len hbm hbl
          cases hal : a.l with
          | nil =>
            have := cutSum_lt ⟨a, ham, hal⟩ 16
            have := parts_one cb hy
            omega
          | cons x r =>
            have hx := nib_lt (h.size a ham).2.2.1 hal
            have ca := cut_len ham hal
            have hxy : x ≠ y := by
              intro e
              rw [hal, hbl, e] at hkc
              simp [common] at hkc
            have hne : x.toNat ≠ y.toNat := fun e => hxy (UInt8.toNat_inj.1 e)
            have := cutSum_le l 16
            have : 2 ≤ partsN l 16 := by
              rcases Nat.lt_or_ge x.toNat y.toNat with e | e
              · exact parts_two ca cb e hy
              · exact parts_two cb ca (by omega) hx
            omega
      refine ⟨by rw [eT, List.length_cons]; omega, fun _ _ => by rw [eT, List.length_cons]; omega, fun p hp => ?_⟩
      have hnb : nodeB (nodeF (buildT (f + 1)) l) = branchB (nodeF (buildT (f + 1)) l) := by rw [eN]; rfl
      have hbx : branchL (nodeF (buildT (f + 1)) l) = branchX rs (if a.1.size = 0 then a.2 else ⟨#[]⟩) := by
        rw [branchL_eq _ (by rw [eN, hrs]; simp), eN]
      cases hpl : p.l with
      | nil =>
        have hpa : p = a := by
          obtain ⟨i, hi⟩ := List.getElem?_of_mem hp
          by_cases h00 : i = 0
          · subst h00; rw [ha] at hi; exact (Option.some.inj hi).symm
          · have := pair_get h.rise (by omega) ha hi
            rw [hpl] at this; exact absurd this (not_lt_nil _)
        subst hpa
        have hz : p.1.size = 0 := by show p.1.data.toList.length = 0; rw [show p.1.data.toList = [] from hpl]; rfl
        rw [eT]
        refine ⟨_, List.mem_cons_self, (inf_text p.2).trans ?_⟩
        rw [hnb]; unfold branchB
        rw [hbx, if_pos hz]
        refine inf_list ?_
        unfold branchX; simp
      | cons x r =>
        have hx := nib_lt (h.size p hp).2.2.1 hpl
        have hc := cut_len hp hpl
        obtain ⟨q, hq, e2⟩ := drop_mem (k := 1) (cut_in hp hpl)
        obtain ⟨t, ht, hv⟩ := (hg _ hc).inf q hq
        rw [e2] at hv
        rw [eT, eB]
        rcases (hst _ hc).inf ht hv with ⟨t', ht', hv'⟩ | hv'
        · refine ⟨t', List.mem_cons_of_mem _ ?_, hv'⟩
          obtain ⟨T', hT', hm'⟩ := flatTs_mem.1 ht'
          refine flatTs_mem.2 ⟨T', ?_, hm'⟩
          unfold ksK
          refine List.mem_flatMap.2 ⟨x.toNat, List.mem_range.2 hx, ?_⟩
          rw [if_neg hc]; exact hT'
        · refine ⟨_, List.mem_cons_self, hv'.trans ?_⟩
          rw [hnb]; unfold branchB
          rw [hbx]
          refine inf_list ?_
          unfold branchX
          refine List.mem_append.2 (.inl ?_)
          have hrm : refB (buildT (f + 1) (dropL 1 (cutL x.toNat l))).text ∈ rs := by
            rw [hrs]
            refine List.mem_map.2 ⟨x.toNat, List.mem_range.2 hx, ?_⟩
            rw [if_neg hc]
          refine List.mem_map.2 ⟨_, hrm, ?_⟩
          rw [if_neg (hst _ hc).may.1.pos]
theorem trie_grows {l : List Pair} (h : checkN l = 0) : (firsts (flatT (trieT l))).length ≤ 1 + 3 * l.length ∧ ∀ p ∈ l, ∃ t ∈ firsts (flatT (trieT l)), Inf p.2 t := by
  by_cases h0 : l = []
  · subst h0
    refine ⟨?_, by simp⟩
    have := firsts_len (flatT (trieT []))
    have h1 := trie_len (check_ok h)
    simp at h1 ⊢; omega
  · have hr := rows_ok (check_ok h)
    have hne : rowsL l ≠ [] := fun e => h0 (by unfold rowsL at e; simpa using e)
    have hg := grow 12 (rowsL l) hr hne
    have h2 : (rowsL l).length = l.length := by unfold rowsL; rw [List.length_map]
    have h3 := hg.all
    rw [h2] at h3
    have h4 := firsts_len (flatT (trieT l))
    have h5 : trieT l = buildT (12 + 1) (rowsL l) := rfl
    rw [← h5] at h3
    refine ⟨by omega, fun p hp => ?_⟩
    obtain ⟨t, ht, hv⟩ := hg.inf _ (List.mem_map_of_mem hp)
    exact ⟨t, (firsts_mem _ _).2 ht, hv⟩
end
end Go.Proofs.YtneojlgbcaejmaaGreatDoor
/- canon: Nodes of what is no map. -/
namespace Go.Proofs.YtneojlgbcaejmaaGreatDoor
section
open Go Go.RowKit
set_option linter.unusedSimpArgs false
set_option linter.unusedVariables false
set_option maxRecDepth 100000 in
set_option maxHeartbeats 4000000 in
theorem nodes_bad (w : World) (v : Value) (l : List Pair) (hv : RdP w v l) (hn : l.length ≤ 9223372036854775807) (hs : ∀ p ∈ l, p.1.size ≤ 9223372036854775807 ∧ p.2.size ≤ 9223372036854775807) (h : checkN l ≠ 0) : Calls Tryz.prog 27 #[v] w fun e w' => e = .returned (.tuple #[.slice none 0 0, .int .i64 (checkN l)]) ∧ Ext w w' := by
  have hck := check_c w v l hv hn hs
  obtain ⟨a, c, hsl⟩ := hv.sl
  subst hsl
  obtain ⟨x, hx⟩ : ∃ x, x = checkN l := ⟨_, rfl⟩
  rw [← hx] at h hck ⊢
  have hne : (x == 0) = false := by simpa using h
  have HT := Lib.hid hck
  clear hck hv hx hs
  rw [← callsIn_wide (n := 0)]
  refine callsIn_of_wp_marks Tryz.func27 rfl trivial ?_ rfl
  simp only [Tryz.ntmps27, List.size_toArray, List.length_cons, List.length_nil, Nat.reduceAdd, Nat.reduceSub, Array.replicate_succ, Array.replicate_zero, List.push_toArray, List.append_toArray, List.nil_append, List.cons_append]
  gi_wp2_with fail
  refine ⟨trivial, rfl, CallsIn.mono (callsIn_wide.2 HT.out) ?_⟩
  rintro e w1 ⟨rfl, hE⟩
  have HE := Lib.hid hE
  clear hE
  gi_wp2_with fail
  refine ⟨_, results_tmp2 rfl _ _ _, ?_⟩
  exact ⟨rfl, HE.out⟩
end
end Go.Proofs.YtneojlgbcaejmaaGreatDoor
/- canon: Few. -/
namespace Go.Proofs.YtneojlgbcaejmaaGreatDoor
section
open Go Go.RowKit
set_option linter.unusedSimpArgs false
set_option linter.unusedVariables false
def shortB (p : Pair) : Bool := decide (p.1.size ≤ 20) && decide (p.2.size ≤ 100)
def fewB (l : List Pair) : Bool := l.all shortB && decide (l.length ≤ 45)
def FwRel (w : World) (l : List Pair) (i : Value) (wr : World) : Prop := ∃ k : Nat, k ≤ l.length ∧ k ≤ 46 ∧ i = .int .i64 k ∧ Ext w wr ∧ (l.take k).all shortB = true
theorem all_step {l : List Pair} {k : Nat} {p : Pair} (h : l[k]? = some p) : (l.take (k + 1)).all shortB = ((l.take k).all shortB && shortB p) := by
  rw [List.take_add_one, h, List.all_append]; simp
theorem all_not {l : List Pair} {k : Nat} {p : Pair} (h : l[k]? = some p) (hb : shortB p = false) : fewB l = false := by
  unfold fewB
  have : l.all shortB = false := by
    rw [Bool.eq_false_iff]; intro h2
    have := List.all_eq_true.1 h2 p (List.mem_of_getElem? h)
    rw [hb] at this; cases this
  rw [this]; rfl
set_option maxRecDepth 100000 in
set_option maxHeartbeats 8000000 in
theorem few5_c (w : World) (v : Value) (l : List Pair) (hv : RdP w v l) (hn : l.length ≤ 9223372036854775807) (hs : ∀ p ∈ l, p.1.size ≤ 9223372036854775807 ∧ p.2.size ≤ 9223372036854775807) :
    Calls Tryz.prog 26 #[v] w fun e w' => e = .returned (.bool (fewB l)) ∧ Ext w w' := by
  have HV := Lib.hid hv
  have HS := Lib.hid hs
  obtain ⟨a, c, hsl⟩ := hv.sl
  subst hsl
  clear hv hs
  obtain ⟨R, hR⟩ : ∃ R, R = fewB l := ⟨_, rfl⟩
  rw [← hR]
  have HR := Lib.hid hR
  clear hR
  go_enter Tryz.func26, Tryz.ntmps26
  go_wp2_with fail
  go_loopw [3] (fun i wr => FwRel w l i wr) (fun i _ => l.length - (intOf i).toNat)
  case atStart => exact ⟨0, by omega, by omega, rfl, ExtR w, rfl⟩
  case round =>
    obtain ⟨k, hk, hk6, rfl, hE, hall⟩ := hrel
    have HE := Lib.hid hE
    have HALL := Lib.hid hall
    clear hE hall
    by_cases hlt : k < l.length
    · have b1 : (k : Int) < (l.length : Int) := by omega
      by_cases h45 : k ≤ 45
      · have b2 : (k : Int) ≤ 45 := by omega
        obtain ⟨p, hp⟩ : ∃ p, l[k]? = some p := ⟨_, List.getElem?_eq_getElem hlt⟩
        rcases HV.out with ⟨_, _, _, h0⟩ | ⟨b, o, c1, hh, hb, hc, hcell⟩
        · rw [h0] at hlt; cases hlt
        cases hh
        obtain ⟨q1, q2⟩ := hcell k p hp
        have q1 := cell_ext q1 HE.out
        have q2 := cell_ext q2 HE.out
        have hsp := HS.out p (List.mem_of_getElem? hp)
        have HP := Lib.hid hp
        obtain ⟨x, y⟩ := p
        simp only at q1 q2 hsp
        clear hcell hb hc hp
        by_cases hx : 20 < x.size
        · have b3 : (20 : Int) < (x.size : Int) := by omega
          have HF := Lib.hid (show R = false by rw [HR.out]; exact all_not HP.out (by unfold shortB; simp; omega))
          clear hx
          go_wp2_with fail
          go_ret
          exact ⟨by rw [HF.out]; rfl, HE.out⟩
        · have b3 : ¬ (20 : Int) < (x.size : Int) := by omega
          by_cases hy : 100 < y.size
          · have b4 : (100 : Int) < (y.size : Int) := by omega
            have HF := Lib.hid (show R = false by rw [HR.out]; exact all_not HP.out (by unfold shortB; simp; omega))
            clear hx hy
            go_wp2_with fail
            go_ret
            exact ⟨by rw [HF.out]; rfl, HE.out⟩
          · have b4 : ¬ (100 : Int) < (y.size : Int) := by omega
            have HG := Lib.hid (show (l.take (k + 1)).all shortB = true by rw [all_step HP.out, HALL.out]; unfold shortB; simp; omega)
            clear hx hy
            go_wp2_with fail
            go_roundw
            case rel => exact ⟨k + 1, by omega, by omega, by go_num, HE.out, HG.out⟩
            case measure => simp [intOf]; omega
      · have b2 : ¬ (k : Int) ≤ 45 := by omega
        have b3 : ¬ (l.length : Int) ≤ 45 := by omega
        have HF := Lib.hid (show R = false by rw [HR.out]; unfold fewB; simp; omega)
        clear h45
        go_wp2_with fail
        go_ret
        exact ⟨by rw [HF.out]; rfl, HE.out⟩
    · have hkl : k = l.length := by omega
      have b1 : ¬ (k : Int) < (l.length : Int) := by omega
      have hall := HALL.out
      rw [hkl, List.take_length] at hall
      by_cases h45 : l.length ≤ 45
      · have b2 : (l.length : Int) ≤ 45 := by omega
        have HF := Lib.hid (show R = true by rw [HR.out]; unfold fewB; rw [hall]; simp; omega)
        clear hkl hall h45
        go_wp2_with fail
        go_ret
        exact ⟨by rw [HF.out]; rfl, HE.out⟩
      · have b2 : ¬ (l.length : Int) ≤ 45 := by omega
        have HF := Lib.hid (show R = false by rw [HR.out]; unfold fewB; simp; omega)
        clear hkl hall h45
        go_wp2_with fail
        go_ret
        exact ⟨by rw [HF.out]; rfl, HE.out⟩
end
end Go.Proofs.YtneojlgbcaejmaaGreatDoor
/- Small laws on maps that are looked at. -/
namespace Go.Proofs.YtneojlgbcaejmaaGreatDoor
section
open Go Go.RowKit
set_option linter.unusedSimpArgs false
set_option linter.unusedVariables false
def SmallP (l : List Pair) : Prop := ∀ p ∈ l, p.1.size ≤ 9223372036854775807 ∧ p.2.size ≤ 9223372036854775807
theorem smallP_ok {l : List Pair} (h : checkN l = 0) : SmallP l := fun p hp => by
  obtain ⟨h1, h2, h3, h4⟩ := (check_ok h).size p hp; omega
theorem few_len {l : List Pair} (h : fewB l = true) : l.length ≤ 45 := by
  unfold fewB at h; simp only [Bool.and_eq_true, decide_eq_true_eq] at h; exact h.2
theorem lessB_iff (a b : ByteArray) : lessB a b = true ↔ Lt a.data.toList b.data.toList := by
  unfold lessB; rw [ByteArray.toList_eq, ByteArray.toList_eq]
abbrev Pair.k (p : Pair) : List UInt8 := p.1.data.toList
def look (m : List Pair) (k : List UInt8) : Option ByteArray := (m.find? (fun p => decide (k = p.k))).map (·.2)
theorem look_nil (k : List UInt8) : look [] k = none := rfl
theorem look_cons (q : Pair) (r : List Pair) (k : List UInt8) : look (q :: r) k = if k = q.k then some q.2 else look r k := by
  unfold look
  by_cases h : k = q.k <;> simp [List.find?_cons, h]
theorem key_beq (a b : ByteArray) : (a.toList == b.toList) = decide (b.data.toList = a.data.toList) := by
  rw [ByteArray.toList_eq, ByteArray.toList_eq]
  by_cases h : b.data.toList = a.data.toList
  · rw [h]; simp
  · rw [decide_eq_false h, Bool.eq_false_iff]; intro e; exact h (eq_of_beq e).symm
end
end Go.Proofs.YtneojlgbcaejmaaGreatDoor
/- cursor: nibble.Key; strings.HasPrefix; entry and ahead. -/
namespace Go.Proofs.YtneojlgbcaejmaaGreatDoor
section
open Go Go.RowKit
set_option linter.unusedSimpArgs false
set_option linter.unusedVariables false
attribute [local go_sem] Oper.semAt_some
/-- An entry, if it has a value; else what a ref refers to. -/
structure Pl5 where
  path : ByteArray
  value : ByteArray
  ref : ByteArray
def preB (p s : ByteArray) : Bool := p.data.toList.isPrefixOf s.data.toList
def keyOk (p : ByteArray) : Bool := p.size % 2 == 0 && validN p
def entryP (fr p v : ByteArray) : List Pl5 := if v.size = 0 ∨ lessB p fr = true then [] else if keyOk p = true then [⟨p, v, ⟨#[]⟩⟩] else []
def aheadP (fr p r : ByteArray) : List Pl5 := if r.size = 0 ∨ (lessB p fr = true ∧ preB p fr = false) then [] else [⟨p, ⟨#[]⟩, r⟩]
def nib1 (i : Nat) : ByteArray := ⟨#[UInt8.ofNat i]⟩

def keyV (p : ByteArray) : Value := .tuple #[.string (if keyOk p = true then pairsB p else ⟨#[]⟩), .bool (keyOk p)]
set_option maxRecDepth 100000 in
set_option maxHeartbeats 4000000 in
theorem key_c (w : World) (p : ByteArray) (hs : p.size ≤ 1000000) : Calls Tryz.prog 64 #[.string p] w fun e w' => e = .returned (keyV p) ∧ Ext w w' := by
  by_cases h2 : p.size % 2 = 0
  · have e1 : (p.size : Int) % 2 = 0 := by omega
    cases hv : validN p with
    | true =>
      have ek : keyOk p = true := by unfold keyOk; rw [hv, h2]; rfl
      have ev : keyV p = .tuple #[.string (pairsB p), .bool true] := by unfold keyV; rw [ek]; rfl
      rw [ev]
      clear ek ev
      go_enter Tryz.func64, Tryz.ntmps64
      go_wp2_with fail
      refine (valid_c w p (by omega)).mono ?_
      rintro e w1 ⟨rfl, rfl⟩
      rw [hv]
      go_wp2_with fail
      refine (pairs_c w1 p hs).mono ?_
      rintro e w2 ⟨rfl, hE⟩
      go_wp2_with fail
      go_ret2
      exact ⟨rfl, hE⟩
    | false =>
      have ek : keyOk p = false := by unfold keyOk; rw [hv, h2]; rfl
      have ev : keyV p = .tuple #[.string ⟨#[]⟩, .bool false] := by unfold keyV; rw [ek]; rfl
      rw [ev]
      clear ek ev
      go_enter Tryz.func64, Tryz.ntmps64
      go_wp2_with fail
      refine (valid_c w p (by omega)).mono ?_
      rintro e w1 ⟨rfl, rfl⟩
      rw [hv]
      go_wp2_with fail
      go_ret2
      exact ⟨rfl, ExtR w1⟩
  · have e1 : ¬ (p.size : Int) % 2 = 0 := by omega
    have ek : keyOk p = false := by unfold keyOk; rw [show (p.size % 2 == 0) = false by simpa using h2]; rfl
    have ev : keyV p = .tuple #[.string ⟨#[]⟩, .bool false] := by unfold keyV; rw [ek]; rfl
    have e2 : ((p.size : Int) % 2 != 0) = true := by simpa using e1
    rw [ev]
    clear ek ev
    go_enter Tryz.func64, Tryz.ntmps64
    go_wp2_with fail
    go_ret2
    exact ⟨rfl, ExtR w⟩
theorem take_pre : ∀ (p s : List UInt8), p.isPrefixOf s = (decide (p.length ≤ s.length) && (s.take p.length == p))
  | [], s => by simp
  | x :: p, [] => by simp
  | x :: p, y :: s => by
    have ih := take_pre p s
    simp only [List.isPrefixOf, List.length_cons, List.take_succ_cons, ih, Nat.add_le_add_iff_right]
    by_cases h : x = y
    · subst h; simp
    · have : (y == x) = false := by simpa using fun e => h e.symm
      simp [h, this]
theorem take_ext (s : ByteArray) (n : Nat) : (s.extract 0 n).toList = s.data.toList.take n := by
  rw [ByteArray.toList_eq, ByteArray.data_extract, Array.toList_extract, List.extract_eq_take_drop]; simp
set_option maxRecDepth 100000 in
set_option maxHeartbeats 4000000 in
theorem prefix_c (w : World) (s p : ByteArray) (hs : s.size ≤ 1000000) (hp : p.size ≤ 1000000) : Calls Tryz.prog 125 #[.string s, .string p] w fun e w' => e = .returned (.bool (preB p s)) ∧ w' = w := by
  have ht := take_pre p.data.toList s.data.toList
  have e1 : p.data.toList.length = p.size := rfl
  have e2 : s.data.toList.length = s.size := rfl
  rw [e1, e2, ← take_ext] at ht
  have ht : preB p s = _ := ht
  by_cases hl : p.size ≤ s.size
  · have b1 : (p.size : Int) ≤ (s.size : Int) := by omega
    have b2 : ¬ (s.size : Int) < (p.size : Int) := by omega
    have b3 : ((p.size : Int)).toNat = p.size := by omega
    rw [decide_eq_true hl, Bool.true_and, ← ByteArray.toList_eq] at ht
    rw [ht]
    clear ht e1 e2
    go_enter Tryz.func125, Tryz.ntmps125
    go_wp2_with fail
    go_ret
    exact ⟨rfl, rfl⟩
  · have b1 : (s.size : Int) < (p.size : Int) := by omega
    rw [decide_eq_false hl, Bool.false_and] at ht
    rw [ht]
    clear ht e1 e2
    go_enter Tryz.func125, Tryz.ntmps125
    go_wp2_with fail
    go_ret
    exact ⟨rfl, rfl⟩
set_option maxRecDepth 100000 in
set_option maxHeartbeats 4000000 in
theorem hasPrefix_c (w : World) (s p : ByteArray) (hs : s.size ≤ 1000000) (hp : p.size ≤ 1000000) : Calls Tryz.prog 92 #[.string s, .string p] w fun e w' => e = .returned (.bool (preB p s)) ∧ w' = w := by
  go_enter Tryz.func92, Tryz.ntmps92
  go_wp2_with fail
  refine (prefix_c w s p hs hp).mono ?_
  rintro e w1 ⟨rfl, rfl⟩
  go_wp2_with fail
  go_ret
  exact ⟨rfl, rfl⟩
/-! What a cursor is in memory. -/
def plV (p : Pl5) : List Value := [.string p.path, .string p.value, .string p.ref]
def cellsL (ps : List Pl5) : List Value := ps.flatMap plV
theorem cellsL_len (ps : List Pl5) : (cellsL ps).length = ps.length * 3 := by
  induction ps with
  | nil => rfl
  | cons p r ih => show (plV p ++ cellsL r).length = _; rw [List.length_append, ih, List.length_cons]; show 3 + _ = _; omega
theorem cellsL_one (p : Pl5) : cellsL [p] = plV p := by simp [cellsL]
theorem cellsL_append (xs ys : List Pl5) : cellsL (xs ++ ys) = cellsL xs ++ cellsL ys := by simp [cellsL]
theorem Tryz.uPls : Tryz.prog.underlying 80 = some (.slice 121) := by kernel_rfl
theorem Tryz.infoPl : (Tryz.prog.info? 121).map (fun i => (i.zero, i.size, i.bytes)) = some (some (.agg #[.string ⟨#[]⟩, .string ⟨#[]⟩, .string ⟨#[]⟩]), 3, 48) := by kernel_rfl
theorem Tryz.sPls : SInfo Tryz.prog 80 121 3 48 := SInfo.mk' Tryz.uPls Tryz.infoPl rfl (by decide)
structure LeftAt (W : World) (c s : Nat) (fr : ByteArray) (v : Value) (ps : List Pl5) (lk : Int) : Prop where
  cur : Blk W c (.cells #[.pointer (some ⟨s, 0, none⟩), .string fr, v, .int .i64 lk] 84)
  row : W.ownsRow 0 121 3 v ps.length (cellsL ps)
  ne : v.ownBlock ≠ some c
structure LeftTo (c s : Nat) (fr : ByteArray) (W : World) (v : Value) (W' : World) (v' : Value) (ps : List Pl5) (lk : Int) : Prop where
  at' : LeftAt W' c s fr v' ps lk
  kp : Keeps (fun b => b = c ∨ v.ownBlock = some b) W W'
  new : v'.ownBlock = v.ownBlock ∨ ∀ b, v'.ownBlock = some b → W.heap.size ≤ b
theorem LeftTo.refl {W : World} {c s : Nat} {fr : ByteArray} {v : Value} {ps : List Pl5} {lk : Int} (h : LeftAt W c s fr v ps lk) : LeftTo c s fr W v W v ps lk := ⟨h, Keeps.refl _ W, .inl rfl⟩
theorem LeftTo.trans {c s : Nat} {fr : ByteArray} {W W' W'' : World} {v v' v'' : Value} {ps ps' : List Pl5} {lk lk' : Int} (h : LeftTo c s fr W v W' v' ps lk) (k : LeftTo c s fr W' v' W'' v'' ps' lk') : LeftTo c s fr W v W'' v'' ps' lk' := by
  refine ⟨k.at', h.kp.trans' k.kp (fun x hx e => ?_), ?_⟩
  · rcases e with e | e
    · exact .inl e
    · rcases h.new with h1 | h1
      · exact .inr (h1 ▸ e)
      · have := h1 x e; omega
  · rcases k.new with h2 | h2
    · rcases h.new with h1 | h1
      · exact .inl (h2.trans h1)
      · exact .inr fun b hb => h1 b (h2 ▸ hb)
    · exact .inr fun b hb => Nat.le_trans h.kp.size (h2 b hb)
theorem LeftAt.ext {W W' : World} {c s : Nat} {fr : ByteArray} {v : Value} {ps : List Pl5} {lk : Int} (h : LeftAt W c s fr v ps lk) (e : Ext W W') : LeftAt W' c s fr v ps lk := ⟨h.cur.keeps e (fun h => h), own_ext h.row e, h.ne⟩
theorem LeftTo.ext {c s : Nat} {fr : ByteArray} {W W' W'' : World} {v v' : Value} {ps : List Pl5} {lk : Int} (h : LeftTo c s fr W v W' v' ps lk) (e : Ext W' W'') : LeftTo c s fr W v W'' v' ps lk := ⟨h.at'.ext e, h.kp.trans (e.mono (fun _ _ g => g.elim)), h.new⟩
theorem LeftTo.ahead {c s : Nat} {fr : ByteArray} {W0 W W' : World} {v v' : Value} {ps : List Pl5} {lk : Int} (e : Ext W0 W) (h : LeftTo c s fr W v W' v' ps lk) : LeftTo c s fr W0 v W' v' ps lk := ⟨h.at', (e.mono (fun _ _ g => g.elim)).trans h.kp, h.new.imp id (fun h1 b hb => Nat.le_trans e.size (h1 b hb))⟩
def LeftPost (c s : Nat) (fr : ByteArray) (W : World) (v : Value) (ps : List Pl5) (lk : Int) (e : Ending) (W' : World) : Prop := e = .returned (.tuple #[]) ∧ ∃ v', LeftTo c s fr W v W' v' ps lk
/-- A row of one's own, whenever it was made. -/
def bare (W : World) : World := { W with heap := #[] }
theorem bare_ext (W : World) : Ext (bare W) W := ⟨rfl, rfl, rfl, Nat.zero_le _, fun b hb => absurd hb (Nat.not_lt_zero b)⟩
theorem ORow.any {T : TypeId} {sz : Nat} {W : World} {v : Value} {n : Nat} {xs : List Value} (h : W.ownsRow 0 T sz v n xs) : ORow T sz (bare W) W v n xs := ⟨row_slice h, h, bare_ext W, fun _ _ => Nat.zero_le _⟩
theorem plV_one (p : Pl5) : ∀ u ∈ plV p, u.oneCell' = true := by
  intro u hu
  simp only [plV, List.mem_cons, List.not_mem_nil, or_false] at hu
  rcases hu with rfl | rfl | rfl <;> rfl
theorem LeftAt.set {W W' : World} {c s : Nat} {fr : ByteArray} {v : Value} {ps : List Pl5} {lk : Int} (h : LeftAt W c s fr v ps lk) (e : Ext W W') {v' : Value} {w' : World} {n : Nat} {qs : List Pl5} (hq : n = qs.length) (r1 : w'.ownsRow 0 121 3 v' n (cellsL qs)) (r2 : Keeps (fun b => v.ownBlock = some b) W' w') (r3 : v'.ownBlock = v.ownBlock ∨ ∀ b, v'.ownBlock = some b → W'.heap.size ≤ b) :
    LeftTo c s fr W v (w'.setCell ⟨c, 2, none⟩ v') v' qs lk := by
  have hb : Blk w' c (.cells #[.pointer (some ⟨s, 0, none⟩), .string fr, v, .int .i64 lk] 84) := (h.cur.keeps e (fun h => h)).keeps r2 (fun hh => h.ne hh)
  have hne : v'.ownBlock ≠ some c := fun hh => by
    rcases r3 with r3 | r3
    · exact h.ne (r3 ▸ hh)
    · have h1 := r3 c hh
      have h2 := (h.cur.keeps e (fun h => h)).lt
      omega
  refine ⟨⟨hb.set_same v', ?_, hne⟩, ?_, ?_⟩
  · rw [← hq]
    exact own_keeps r1 (Keeps.oneSet w' ⟨c, 2, none⟩ v') (fun b hb e => hne (by have e : b = c := e; rw [← e]; exact hb))
  · refine ((e.mono (fun _ _ g => g.elim)).trans' r2 (fun x hx g => .inr g)).trans' (Keeps.oneSet w' ⟨c, 2, none⟩ v') (fun x hx g => .inl g)
  · exact r3.imp id (fun r3 b hb => Nat.le_trans e.size (r3 b hb))
set_option maxRecDepth 100000 in
set_option maxHeartbeats 4000000 in
theorem entry_c (W : World) (c s : Nat) (fr : ByteArray) (v : Value) (ps : List Pl5) (lk : Int) (h : LeftAt W c s fr v ps lk) (hps : ps.length ≤ 1000000) (p x : ByteArray) (hp : p.size ≤ 1000000) :
    Calls Tryz.prog 61 #[.pointer (some ⟨c, 0, none⟩), .string p, .string x] W (LeftPost c s fr W v (ps ++ entryP fr p x) lk) := by
  have q1 := h.cur.cell (i := 1) (v := .string fr) (by rfl)
  have q2 := h.cur.cell (i := 2) (v := v) (by rfl)
  have HE := Lib.hid (show LeftTo c s fr W v W v ps lk from LeftTo.refl h)
  cases hx : x.toList.isEmpty with
  | true =>
    have h0 : x.size = 0 := by
      rw [List.isEmpty_iff] at hx
      have : x.toList.length = x.size := by rw [ByteArray.toList_eq]; rfl
      rw [← this, hx]; rfl
    have e0 : entryP fr p x = [] := by unfold entryP; rw [if_pos (.inl h0)]
    rw [e0, List.append_nil]
    clear e0 h h0
    go_enter Tryz.func61, Tryz.ntmps61
    go_wp2_with fail
    refine bodyPost_ret (results_none rfl _ _ _) rfl ?_
    exact ⟨rfl, v, HE.out⟩
  | false =>
    have hx0 : ¬ x.size = 0 := fun e => by
      have : x.toList.length = x.size := by rw [ByteArray.toList_eq]; rfl
      rw [e] at this
      rw [List.eq_nil_of_length_eq_zero this] at hx; cases hx
    cases hl : Op.bytesLess p.toList fr.toList with
    | true =>
      have e0 : entryP fr p x = [] := by unfold entryP; rw [if_pos (.inr hl)]
      rw [e0, List.append_nil]
      clear e0 h
      go_enter Tryz.func61, Tryz.ntmps61
      go_wp2_with fail
      refine bodyPost_ret (results_none rfl _ _ _) rfl ?_
      exact ⟨rfl, v, HE.out⟩
    | false =>
      have e0 : entryP fr p x = if keyOk p = true then [⟨p, x, ⟨#[]⟩⟩] else [] := by unfold entryP; rw [if_neg (fun e => e.elim hx0 (fun e => by have e : Op.bytesLess p.toList fr.toList = true := e; rw [hl] at e; cases e))]
      have H := Lib.hid h
      rw [e0]
      have HK := key_c W p hp
      unfold keyV at HK
      have HKC := Lib.hid HK
      clear e0 h hx0 HK
      cases hk : keyOk p with
      | false =>
        rw [if_neg (by simp), List.append_nil]
        rw [hk] at HKC
        clear hk
        go_enter Tryz.func61, Tryz.ntmps61
        go_wp2_with fail
        refine HKC.out.mono ?_
        rintro e w1 ⟨rfl, hE⟩
        have HE1 := Lib.hid (HE.out.ext hE)
        clear hE
        go_wp2_with fail
        refine bodyPost_end (results_none rfl _ _ _) rfl ?_
        exact ⟨rfl, v, HE1.out⟩
      | true =>
        rw [if_pos rfl]
        rw [hk] at HKC
        obtain ⟨ad, cp, hv⟩ := row_slice H.out.row
        obtain ⟨qs, hqs⟩ : ∃ qs, qs = ps ++ [(⟨p, x, ⟨#[]⟩⟩ : Pl5)] := ⟨_, rfl⟩
        have HQ := Lib.hid hqs
        rw [← hqs]
        subst hv
        have hm1 : ps.length + 1 ≤ maxLen := by unfold maxLen; omega
        have hm2 : (ps.length + 1) * 48 ≤ 140737488355328 := by omega
        clear hk hqs
        go_enter Tryz.func61, Tryz.ntmps61
        go_wp2_with fail
        refine HKC.out.mono ?_
        rintro e w1 ⟨rfl, hE⟩
        simp only [if_true]
        have q2 := cell_ext q2 hE
        have HX := Lib.hid hE
        clear hE
        go_wp2_with (at_builtin; (refine wpList_app Tryz.sPls (ORow.any (own_ext H.out.row (HX.out.alloc _))) (.tmp 28) (.tmp 32) rfl rfl rfl (news_blk (Blk.new w1 _)) (news := plV ⟨p, x, ⟨#[]⟩⟩) (plV_one _) rfl rfl hm1 hm2 ?_; intro v' w' r1 r2 r3; have q3 := cell_keeps (cell_ext q2 ((ExtR w1).alloc _)) r2 (fun hh => H.out.ne hh); have qf : w'.frozen? ⟨c, 2, none⟩ = false := ((H.out.cur.keeps (HX.out.alloc _) (fun h => h)).keeps r2 (fun hh => H.out.ne hh)).frozen; have HR := Lib.hid (And.intro r1 (And.intro r2 r3)); obtain ⟨ad', cp', hv'⟩ := r1.sl; subst hv'; clear r1 r2 r3))
        refine bodyPost_end (results_none rfl _ _ _) rfl ?_
        refine ⟨rfl, .slice ad' (ps.length + 1) cp', ?_⟩
        have hr := HR.out.1.own
        rw [← cellsL_one, ← cellsL_append, ← HQ.out] at hr
        exact H.out.set (HX.out.alloc _) (by rw [HQ.out, List.length_append]; rfl) hr HR.out.2.1 HR.out.2.2
set_option maxRecDepth 100000 in
set_option maxHeartbeats 4000000 in
theorem ahead_cur (W : World) (c s : Nat) (fr : ByteArray) (v : Value) (ps : List Pl5) (lk : Int) (h : LeftAt W c s fr v ps lk) (hps : ps.length ≤ 1000000) (p x : ByteArray) (hp : p.size ≤ 1000000) (hf : fr.size ≤ 1000000) :
    Calls Tryz.prog 62 #[.pointer (some ⟨c, 0, none⟩), .string p, .string x] W (LeftPost c s fr W v (ps ++ aheadP fr p x) lk) := by
  have q1 := h.cur.cell (i := 1) (v := .string fr) (by rfl)
  have q2 := h.cur.cell (i := 2) (v := v) (by rfl)
  have HE := Lib.hid (show LeftTo c s fr W v W v ps lk from LeftTo.refl h)
  have HPC := Lib.hid (hasPrefix_c W fr p hf hp)
  cases hx : x.toList.isEmpty with
  | true =>
    have h0 : x.size = 0 := by
      rw [List.isEmpty_iff] at hx
      have : x.toList.length = x.size := by rw [ByteArray.toList_eq]; rfl
      rw [← this, hx]; rfl
    have e0 : aheadP fr p x = [] := by unfold aheadP; rw [if_pos (.inl h0)]
    rw [e0, List.append_nil]
    clear e0 h h0
    go_enter Tryz.func62, Tryz.ntmps62
    go_wp2_with fail
    refine bodyPost_ret (results_none rfl _ _ _) rfl ?_
    exact ⟨rfl, v, HE.out⟩
  | false =>
    have hx0 : ¬ x.size = 0 := fun e => by
      have : x.toList.length = x.size := by rw [ByteArray.toList_eq]; rfl
      rw [e] at this
      rw [List.eq_nil_of_length_eq_zero this] at hx; cases hx
    have fin : ∀ b : Bool, preB p fr = b → (b = false → Op.bytesLess p.toList fr.toList = false) → Calls Tryz.prog 62 #[.pointer (some ⟨c, 0, none⟩), .string p, .string x] W (LeftPost c s fr W v (ps ++ [(⟨p, ⟨#[]⟩, x⟩ : Pl5)]) lk) := by
      intro b hb hbl
      have H := Lib.hid h
      rw [hb] at HPC
      obtain ⟨ad, cp, hv⟩ := row_slice H.out.row
      obtain ⟨qs, hqs⟩ : ∃ qs, qs = ps ++ [(⟨p, ⟨#[]⟩, x⟩ : Pl5)] := ⟨_, rfl⟩
      have HQ := Lib.hid hqs
      rw [← hqs]
      subst hv
      have hm1 : ps.length + 1 ≤ maxLen := by unfold maxLen; omega
      have hm2 : (ps.length + 1) * 48 ≤ 140737488355328 := by omega
      clear hqs h hx0 hb
      cases hl : Op.bytesLess p.toList fr.toList with
      | true =>
        cases b with
        | false => rw [hbl rfl] at hl; cases hl
        | true =>
          clear hbl
          go_enter Tryz.func62, Tryz.ntmps62
          go_wp2_with fail
          refine HPC.out.mono ?_
          rintro e w1 ⟨rfl, hw⟩
          subst hw
          go_wp2_with (at_builtin; (refine wpList_app Tryz.sPls (ORow.any (own_ext H.out.row ((ExtR _).alloc _))) (.tmp 29) (.tmp 33) rfl rfl rfl (news_blk (Blk.new _ _)) (news := plV ⟨p, ⟨#[]⟩, x⟩) (plV_one _) rfl rfl hm1 hm2 ?_; intro v' w' r1 r2 r3; have q3 := cell_keeps (cell_ext q2 ((ExtR _).alloc _)) r2 (fun hh => H.out.ne hh); have qf : w'.frozen? ⟨c, 2, none⟩ = false := ((H.out.cur.keeps ((ExtR _).alloc _) (fun h => h)).keeps r2 (fun hh => H.out.ne hh)).frozen; have HR := Lib.hid (And.intro r1 (And.intro r2 r3)); obtain ⟨ad', cp', hv'⟩ := r1.sl; subst hv'; clear r1 r2 r3))
          refine bodyPost_end (results_none rfl _ _ _) rfl ?_
          refine ⟨rfl, .slice ad' (ps.length + 1) cp', ?_⟩
          have hr := HR.out.1.own
          rw [← cellsL_one, ← cellsL_append, ← HQ.out] at hr
          exact H.out.set ((ExtR _).alloc _) (by rw [HQ.out, List.length_append]; rfl) hr HR.out.2.1 HR.out.2.2
      | false =>
        clear hbl
        go_enter Tryz.func62, Tryz.ntmps62
        go_wp2_with (at_builtin; (refine wpList_app Tryz.sPls (ORow.any (own_ext H.out.row ((ExtR W).alloc _))) (.tmp 29) (.tmp 33) rfl rfl rfl (news_blk (Blk.new W _)) (news := plV ⟨p, ⟨#[]⟩, x⟩) (plV_one _) rfl rfl hm1 hm2 ?_; intro v' w' r1 r2 r3; have q3 := cell_keeps (cell_ext q2 ((ExtR W).alloc _)) r2 (fun hh => H.out.ne hh); have qf : w'.frozen? ⟨c, 2, none⟩ = false := ((H.out.cur.keeps ((ExtR W).alloc _) (fun h => h)).keeps r2 (fun hh => H.out.ne hh)).frozen; have HR := Lib.hid (And.intro r1 (And.intro r2 r3)); obtain ⟨ad', cp', hv'⟩ := r1.sl; subst hv'; clear r1 r2 r3))
        refine bodyPost_end (results_none rfl _ _ _) rfl ?_
        refine ⟨rfl, .slice ad' (ps.length + 1) cp', ?_⟩
        have hr := HR.out.1.own
        rw [← cellsL_one, ← cellsL_append, ← HQ.out] at hr
        exact H.out.set ((ExtR W).alloc _) (by rw [HQ.out, List.length_append]; rfl) hr HR.out.2.1 HR.out.2.2
    by_cases hc : lessB p fr = true ∧ preB p fr = false
    · have e0 : aheadP fr p x = [] := by unfold aheadP; rw [if_pos (.inr hc)]
      obtain ⟨hl, hb⟩ := hc
      have hl : Op.bytesLess p.toList fr.toList = true := hl
      rw [e0, List.append_nil]
      rw [hb] at HPC
      clear e0 h hx0 fin hb
      go_enter Tryz.func62, Tryz.ntmps62
      go_wp2_with fail
      refine HPC.out.mono ?_
      rintro e w1 ⟨rfl, hw⟩
      subst hw
      go_wp2_with fail
      refine bodyPost_ret (results_none rfl _ _ _) rfl ?_
      exact ⟨rfl, v, HE.out⟩
    · have e0 : aheadP fr p x = [⟨p, ⟨#[]⟩, x⟩] := by unfold aheadP; rw [if_neg (fun e => e.elim hx0 hc)]
      rw [e0]
      refine fin _ rfl fun hb => ?_
      rw [Bool.eq_false_iff]
      exact fun hl => hc ⟨hl, hb⟩
end
end Go.Proofs.YtneojlgbcaejmaaGreatDoor
