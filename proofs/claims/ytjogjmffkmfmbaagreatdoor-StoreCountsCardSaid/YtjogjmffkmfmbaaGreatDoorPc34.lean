/- Parts of the proof, one behind the other: StorePl. Each is under no condition but those that it states. -/
import Derived.Test.YtjogjmffkmfmbaaGreatDoorPc33
/- store, plain: what is there when the nodes of maps are added. -/
namespace Go.Proofs.YtjogjmffkmfmbaaGreatDoor
section
open Go Go.RowKit
set_option linter.unusedSimpArgs false
set_option linter.unusedVariables false
/-- How often a key is among texts. -/
def cK (T : List ByteArray) (k : Key) : Nat := (T.map (·.data.toList)).count k
theorem cK_app (A B : List ByteArray) (k : Key) : cK (A ++ B) k = cK A k + cK B k := by unfold cK; rw [List.map_append, List.count_append]
theorem cK_cons (r : ByteArray) (B : List ByteArray) (k : Key) : cK (r :: B) k = cK B k + (if k = r.data.toList then 1 else 0) := by
  unfold cK
  rw [List.map_cons, List.count_cons]
  by_cases h : k = r.data.toList
  · rw [if_pos h, h]; simp
  · rw [if_neg h, if_neg]; simpa using fun e => h e.symm
theorem cK_none {T : List ByteArray} {k : Key} (h : ∀ r ∈ T, r.data.toList ≠ k) : cK T k = 0 := by
  unfold cK
  rw [List.count_eq_zero]
  intro hm
  obtain ⟨r, hr, e⟩ := List.mem_map.1 hm
  exact h r hr e
theorem cK_pos {T : List ByteArray} {r : ByteArray} (h : r ∈ T) : 1 ≤ cK T r.data.toList := by
  unfold cK
  exact List.count_pos_iff.2 (List.mem_map.2 ⟨r, h, rfl⟩)
def addU (n : Nat) (x : Nd5) : Nd5 := (x.1, x.2.1, ⟨x.2.2.text, x.2.2.refs, x.2.2.used + n, x.2.2.held⟩)
def addH (n : Nat) (x : Nd5) : Nd5 := (x.1, x.2.1, ⟨x.2.2.text, x.2.2.refs, x.2.2.used, x.2.2.held + n⟩)
theorem bumps_is : ∀ (T : List ByteArray) (L : List Nd5), bumps T L = L.map fun x => addU (cK T x.1) x
  | [], L => by
    show L = _
    have : (fun x : Nd5 => addU (cK [] x.1) x) = id := by
      funext x
      obtain ⟨a, b, ⟨t, r, u, h⟩⟩ := x
      unfold addU cK; simp
    rw [this, List.map_id]
  | r :: T, L => by
    show bumps T (bumpU r.data.toList L) = _
    rw [bumps_is T, bumpU, List.map_map]
    refine List.map_congr_left fun x _ => ?_
    show addU (cK T (if x.1 = r.data.toList then (x.1, x.2.1, putF 2 (x.2.2.used + 1) x.2.2) else x).1) (if x.1 = r.data.toList then (x.1, x.2.1, putF 2 (x.2.2.used + 1) x.2.2) else x) = _
    rw [cK_cons]
    by_cases h : x.1 = r.data.toList
    · simp only [if_pos h]
      unfold addU putF
      simp only [if_true]
      rw [show x.2.2.used + 1 + ((cK T x.1 : Nat) : Int) = x.2.2.used + ((cK T x.1 + 1 : Nat) : Int) by omega]
    · simp only [if_neg h, Nat.add_zero]
theorem bumpH_is (r : ByteArray) (L : List Nd5) : bumpH r.data.toList L = L.map fun x => addH (cK [r] x.1) x := by
  unfold bumpH
  refine List.map_congr_left fun x _ => ?_
  rw [cK_cons]
  by_cases h : x.1 = r.data.toList
  · rw [if_pos h, if_pos h]; rfl
  · rw [if_neg h, if_neg h]
    obtain ⟨a, b, ⟨t, r, u, h⟩⟩ := x
    unfold addH cK; simp
def bothU (T : List ByteArray) (r : ByteArray) (x : Nd5) : Nd5 := addH (cK [r] x.1) (addU (cK T x.1) x)
theorem both_is (T : List ByteArray) (r : ByteArray) (L : List Nd5) : bumpH r.data.toList (bumps T L) = L.map (bothU T r) := by
  rw [bumpH_is, bumps_is, List.map_map]; rfl
theorem both_keys (T : List ByteArray) (r : ByteArray) (L : List Nd5) : (L.map (bothU T r)).map (·.1) = L.map (·.1) := by
  rw [List.map_map]; rfl
theorem both_refs (T : List ByteArray) (r : ByteArray) (L : List Nd5) : (L.map (bothU T r)).flatMap (fun y => y.2.2.refs) = L.flatMap (fun y => y.2.2.refs) := by
  rw [List.flatMap_map]; rfl
theorem picks_refs (G : List Nd5) : ∀ F : List ByteArray, F.flatMap (refsO G) = (picks G F).flatMap (fun y => y.2.2.refs)
  | [] => rfl
  | x :: F => by
    have ih := picks_refs G F
    unfold picks at *
    rw [List.flatMap_cons, List.filterMap_cons]
    cases h : atL G x.data.toList with
    | none => rw [ih]; unfold refsO; rw [h]; rfl
    | some y => rw [ih, refsO_some h, List.flatMap_cons]
theorem has_iff {S : List Nd5} {k : Key} : (atL S k).isSome = true ↔ k ∈ S.map (·.1) := by
  constructor
  · intro h
    obtain ⟨y, hy⟩ := Option.isSome_iff_exists.1 h
    exact List.mem_map.2 ⟨y, (atL_mem hy).1, (atL_mem hy).2⟩
  · intro h
    obtain ⟨y, hy, e⟩ := List.mem_map.1 h
    cases ha : atL S k with
    | some z => rfl
    | none => exact absurd e.symm (atL_none.1 ha y hy)
theorem at_uniq {S : List Nd5} (hn : (S.map (·.1)).Nodup) {x y : Nd5} {k : Key} (hx : x ∈ S) (e : x.1 = k) (hy : atL S k = some y) : y = x := by
  obtain ⟨h1, h2⟩ := atL_mem hy
  exact nodup_map_inj hn h1 hx (h2.trans e.symm)
/-- A store, as nodes of U that hold what they refer to, each used as often as it is referred to, each held as often as it is among H. -/
structure SInv (U H : List ByteArray) (S : List Nd5) : Prop where
  is : ∀ x ∈ S, ∃ t ∈ U, x.1 = ky t ∧ x.2.2.text = t ∧ x.2.2.refs = hashesT (nodeOf t)
  shut : ∀ x ∈ S, ∀ r ∈ x.2.2.refs, (atL S r.data.toList).isSome = true
  used : ∀ x ∈ S, x.2.2.used = (cK (S.flatMap fun y => y.2.2.refs) x.1 : Nat)
  held : ∀ x ∈ S, x.2.2.held = (cK H x.1 : Nat)
  hin : ∀ h ∈ H, (atL S h.data.toList).isSome = true
theorem SInv.none (U : List ByteArray) : SInv U [] [] := ⟨by simp, by simp, by simp, by simp, by simp⟩
theorem ky_inj {U : List ByteArray} (hU : InjL U) {s t : ByteArray} (hs : s ∈ U) (ht : t ∈ U) (h : ky s = ky t) : s = t := hU s hs t ht (ba_data h)
/-- What Add makes of the items. -/
def addS (S G : List Nd5) (M : List ByteArray) (top : ByteArray) : List Nd5 := bumpH (shaB top).data.toList (bumps ((frK S M).flatMap (refsO G)) (S ++ picks G (frK S M)))
theorem addS_is (S G : List Nd5) (M : List ByteArray) (top : ByteArray) : addS S G M top = (S ++ picks G (frK S M)).map (bothU ((frK S M).flatMap (refsO G)) (shaB top)) := both_is _ _ _
/-- What is there of a text of U. -/
theorem SInv.text {U H : List ByteArray} {S : List Nd5} (hU : InjL U) (h : SInv U H S) {t : ByteArray} (ht : t ∈ U) (hk : ky t ∈ S.map (·.1)) : ∃ x, atL S (ky t) = some x ∧ x ∈ S ∧ x.2.2.text = t ∧ x.2.2.refs = hashesT (nodeOf t) := by
  obtain ⟨x, hx⟩ := Option.isSome_iff_exists.1 (has_iff.2 hk)
  obtain ⟨x1, x2⟩ := atL_mem hx
  obtain ⟨t', ht', e1, e2, e3⟩ := h.is x x1
  have : t' = t := ky_inj hU ht' ht (e1.symm.trans x2)
  subst this
  exact ⟨x, hx, x1, e2, e3⟩
theorem SInv.cnt {U H : List ByteArray} {S : List Nd5} (hU : InjL U) (h : SInv U H S) (w : World) {L : List ByteArray} {top : ByteArray} (hT : TextsP L top) (hLU : ∀ t ∈ L, t ∈ U) (hL : ∀ t ∈ L, ky t ∈ S.map (·.1)) (hH : shaB top ∈ H) {t : ByteArray} (ht : t ∈ L) : 1 ≤ countO (atL S (ky t)) := by
  obtain ⟨x, hx, x1, x2, x3⟩ := h.text hU (hLU t ht) (hL t ht)
  have hk := (atL_mem hx).2
  rw [hx]
  show (1 : Int) ≤ x.2.2.used + x.2.2.held
  rw [h.used x x1, h.held x x1, hk]
  obtain ⟨i, hi, e⟩ := List.mem_iff_getElem.1 ht
  cases i with
  | zero =>
    have : t = top := by
      have := hT.head
      rw [List.getElem?_eq_getElem hi] at this
      rw [← e]; exact Option.some.inj this
    subst this
    have := cK_pos hH
    unfold ky
    omega
  | succ i =>
    obtain ⟨_, t', ht', n, hn, hm⟩ := hT.told i t (by rw [List.getElem?_eq_getElem hi, e])
    obtain ⟨y, hy, y1, y2, y3⟩ := h.text hU (hLU t' ht') (hL t' ht')
    have hm2 : shaB t ∈ S.flatMap fun y => y.2.2.refs := List.mem_flatMap.2 ⟨y, y1, by rw [y3, isNode_inj w (nodeOf_is hn) hn]; exact hm⟩
    have := cK_pos hm2
    unfold ky
    omega
theorem StoreAt.nd {W : World} {s bm : Nat} {room : Int} {S : List Nd5} (h : StoreAt W s bm room S) : (S.map (·.1)).Nodup := by
  obtain ⟨es, ck, _, hv⟩ := h.mp.mp
  have := hv.keys
  rw [List.map_map] at this
  exact this
end
end Go.Proofs.YtjogjmffkmfmbaaGreatDoor
