/- Parts of the proof, one behind the other: StorePl. Each is under no condition but those that it states. -/
import Derived.Test.YtneojlgbcaejmaaGreatDoorBa36
/- store, plain: what is there when the nodes of maps are added. -/
namespace Go.Proofs.YtneojlgbcaejmaaGreatDoor
section
open Go Go.RowKit
set_option linter.unusedSimpArgs false
set_option linter.unusedVariables false
/-- How often a key is among texts. -/
def cK (T : List ByteArray) (k : Key) : Nat := (T.map (·.data.toList)).count k
theorem cK_app (A B : List ByteArray) (k : Key) : cK (A ++ B) k = cK A k + cK B k := by unfold cK; rw [List.map_append, List.count_append]
theorem cK_cons (r : ByteArray) (B : List ByteArray) (k : Key) : cK (r :: B) k = cK B k + (if k = r.data.toList then 1 else 0) := by
  unfold cK
  rw [List.map_cons, List.count_cons]
  by_cases h : k = r.data.toList
  · rw [if_pos h, h]; simp
  · rw [if_neg h, if_neg]; simpa using fun e => h e.symm
theorem cK_none {T : List ByteArray} {k : Key} (h : ∀ r ∈ T, r.data.toList ≠ k) : cK T k = 0 := by
  unfold cK
  rw [List.count_eq_zero]
  intro hm
  obtain ⟨r, hr, e⟩ := List.mem_map.1 hm
  exact h r hr e
theorem cK_pos {T : List ByteArray} {r : ByteArray} (h : r ∈ T) : 1 ≤ cK T r.data.toList := by
  unfold cK
  exact List.count_pos_iff.2 (List.mem_map.2 ⟨r, h, rfl⟩)
theorem cK_perm {A B : List ByteArray} (h : A.Perm B) (k : Key) : cK A k = cK B k := (h.map _).count_eq k
def addU (n : Nat) (x : Nd5) : Nd5 := (x.1, x.2.1, ⟨x.2.2.text, x.2.2.refs, x.2.2.used + n, x.2.2.held⟩)
def addH (n : Nat) (x : Nd5) : Nd5 := (x.1, x.2.1, ⟨x.2.2.text, x.2.2.refs, x.2.2.used, x.2.2.held + n⟩)
theorem bumps_is : ∀ (T : List ByteArray) (L : List Nd5), bumps T L = L.map fun x => addU (cK T x.1) x
  | [], L => by
    show L = _
    have : (fun x : Nd5 => addU (cK [] x.1) x) = id := by
      funext x
      obtain ⟨a, b, ⟨t, r, u, h⟩⟩ := x
      unfold addU cK; simp
    rw [this, List.map_id]
  | r :: T, L => by
    show bumps T (bumpU r.data.toList L) = _
    rw [bumps_is T, bumpU, List.map_map]
    refine List.map_congr_left fun x _ => ?_
    show addU (cK T (if x.1 = r.data.toList then (x.1, x.2.1, putF 2 (x.2.2.used + 1) x.2.2) else x).1) (if x.1 = r.data.toList then (x.1, x.2.1, putF 2 (x.2.2.used + 1) x.2.2) else x) = _
    rw [cK_cons]
    by_cases h : x.1 = r.data.toList
    · simp only [if_pos h]
      unfold addU putF
      simp only [if_true]
      rw [show x.2.2.used + 1 + ((cK T x.1 : Nat) : Int) = x.2.2.used + ((cK T x.1 + 1 : Nat) : Int) by omega]
    · simp only [if_neg h, Nat.add_zero]
theorem bumpH_is (r : ByteArray) (L : List Nd5) : bumpH r.data.toList L = L.map fun x => addH (cK [r] x.1) x := by
  unfold bumpH
  refine List.map_congr_left fun x _ => ?_
  rw [cK_cons]
  by_cases h : x.1 = r.data.toList
  · rw [if_pos h, if_pos h]; rfl
  · rw [if_neg h, if_neg h]
    obtain ⟨a, b, ⟨t, r, u, h⟩⟩ := x
    unfold addH cK; simp
def bothU (T : List ByteArray) (r : ByteArray) (x : Nd5) : Nd5 := addH (cK [r] x.1) (addU (cK T x.1) x)
theorem both_is (T : List ByteArray) (r : ByteArray) (L : List Nd5) : bumpH r.data.toList (bumps T L) = L.map (bothU T r) := by
  rw [bumpH_is, bumps_is, List.map_map]; rfl
theorem both_keys (T : List ByteArray) (r : ByteArray) (L : List Nd5) : (L.map (bothU T r)).map (·.1) = L.map (·.1) := by
  rw [List.map_map]; rfl
theorem both_refs (T : List ByteArray) (r : ByteArray) (L : List Nd5) : (L.map (bothU T r)).flatMap (fun y => y.2.2.refs) = L.flatMap (fun y => y.2.2.refs) := by
  rw [List.flatMap_map]; rfl
theorem picks_refs (G : List Nd5) : ∀ F : List ByteArray, F.flatMap (refsO G) = (picks G F).flatMap (fun y => y.2.2.refs)
  | [] => rfl
  | x :: F => by
    have ih := picks_refs G F
    unfold picks at *
    rw [List.flatMap_cons, List.filterMap_cons]
    cases h : atL G x.data.toList with
    | none => rw [ih]; unfold refsO; rw [h]; rfl
    | some y => rw [ih, refsO_some h, List.flatMap_cons]
theorem has_iff {S : List Nd5} {k : Key} : (atL S k).isSome = true ↔ k ∈ S.map (·.1) := by
  constructor
  · intro h
    obtain ⟨y, hy⟩ := Option.isSome_iff_exists.1 h
    exact List.mem_map.2 ⟨y, (atL_mem hy).1, (atL_mem hy).2⟩
  · intro h
    obtain ⟨y, hy, e⟩ := List.mem_map.1 h
    cases ha : atL S k with
    | some z => rfl
    | none => exact absurd e.symm (atL_none.1 ha y hy)
theorem at_uniq {S : List Nd5} (hn : (S.map (·.1)).Nodup) {x y : Nd5} {k : Key} (hx : x ∈ S) (e : x.1 = k) (hy : atL S k = some y) : y = x := by
  obtain ⟨h1, h2⟩ := atL_mem hy
  exact nodup_map_inj hn h1 hx (h2.trans e.symm)
/-- A store, as nodes of U that hold what they refer to, each used as often as it is referred to, each held as often as it is among H. -/
structure SInv (U H : List ByteArray) (S : List Nd5) : Prop where
  is : ∀ x ∈ S, ∃ t ∈ U, x.1 = ky t ∧ x.2.2.text = t ∧ x.2.2.refs = hashesT (nodeOf t)
  shut : ∀ x ∈ S, ∀ r ∈ x.2.2.refs, (atL S r.data.toList).isSome = true
  used : ∀ x ∈ S, x.2.2.used = (cK (S.flatMap fun y => y.2.2.refs) x.1 : Nat)
  held : ∀ x ∈ S, x.2.2.held = (cK H x.1 : Nat)
  hin : ∀ h ∈ H, (atL S h.data.toList).isSome = true
theorem SInv.none (U : List ByteArray) : SInv U [] [] := ⟨by simp, by simp, by simp, by simp, by simp⟩
/-- All texts of L are told from the first one on. -/
def RootP (L : List ByteArray) (top : ByteArray) : Prop := ∀ P : ByteArray → Prop, (∀ t ∈ L, P (shaB t) → ∀ h ∈ hashesT (nodeOf t), P h) → P (shaB top) → ∀ t ∈ L, P (shaB t)
theorem ky_inj {U : List ByteArray} (hU : InjL U) {s t : ByteArray} (hs : s ∈ U) (ht : t ∈ U) (h : ky s = ky t) : s = t := hU s hs t ht (ba_data h)
/-- What Add makes of the items. -/
def addS (S G : List Nd5) (M : List ByteArray) (top : ByteArray) : List Nd5 := bumpH (shaB top).data.toList (bumps ((frK S M).flatMap (refsO G)) (S ++ picks G (frK S M)))
theorem addS_is (S G : List Nd5) (M : List ByteArray) (top : ByteArray) : addS S G M top = (S ++ picks G (frK S M)).map (bothU ((frK S M).flatMap (refsO G)) (shaB top)) := both_is _ _ _
theorem addS_len (S G : List Nd5) (M : List ByteArray) (top : ByteArray) (L : List ByteArray) (hG : G.map kvI = readG L) (hin : ∀ x ∈ M, (atL G x.data.toList).isSome = true) :
    (addS S G M top).length = S.length + (frK S M).length ∧ (frK S M).length ≤ L.length := by
  have h1 := frK_len (S := S) hin
  have h2 : G.length ≤ L.length := by
    have := (readG_all L).2.2
    rw [← hG, List.length_map] at this; exact this
  refine ⟨?_, Nat.le_trans h1 h2⟩
  rw [addS_is, List.length_map, List.length_append]
  have : ∀ F : List ByteArray, (∀ x ∈ F, (atL G x.data.toList).isSome = true) → (picks G F).length = F.length := fun F => by
    induction F with
    | nil => intro _; rfl
    | cons x F ih =>
      intro h
      obtain ⟨y, hy⟩ := Option.isSome_iff_exists.1 (h x List.mem_cons_self)
      have := ih fun z hz => h z (List.mem_cons_of_mem _ hz)
      unfold picks at *
      rw [List.filterMap_cons, hy, List.length_cons, List.length_cons, this]
  rw [this _ fun x hx => hin x (frK_mem.1 hx).1]
theorem add_inv {U H : List ByteArray} {S G : List Nd5} {L M : List ByteArray} {top : ByteArray} (hU : InjL U) (hS : SInv U H S) (hLU : ∀ t ∈ L, t ∈ U) (hG : G.map kvI = readG L)
    (hP : Path S G (shaB top) M (frK S M).length) (hR : RootP L top) (htop : top ∈ L) :
    SInv U (H ++ [shaB top]) (addS S G M top) ∧ ∀ k, k ∈ (addS S G M top).map (·.1) ↔ k ∈ S.map (·.1) ∨ ∃ t ∈ L, k = ky t := by
  obtain ⟨F, hF⟩ : ∃ F, F = frK S M := ⟨_, rfl⟩
  obtain ⟨T, hT⟩ : ∃ T, T = F.flatMap (refsO G) := ⟨_, rfl⟩
  have hM : M = shaB top :: T := by
    have := hP.is
    rw [List.take_length, ← hF, ← hT] at this; exact this
  have hTp : T = (picks G F).flatMap (fun y => y.2.2.refs) := by rw [hT, picks_refs]
  have h1 : ∀ r ∈ M, (atL (S ++ picks G F) r.data.toList).isSome = true := fun r hr => by rw [hF]; exact s1_has hP hr
  have hpick : ∀ x ∈ picks G F, x ∈ G ∧ (∃ t ∈ L, x.1 = ky t ∧ x.2.2 = itOf t) ∧ atL S x.1 = none := fun x hx => by
    obtain ⟨h1, z, hz, e⟩ := picks_mem hx
    refine ⟨h1, given_is hG h1, ?_⟩
    rw [hF] at hz
    rw [e]; exact (frK_mem.1 hz).2
  have hnot : ∀ x ∈ picks G F, ∀ r : ByteArray, (atL S r.data.toList).isSome = true → r.data.toList ≠ x.1 := fun x hx r hr e => by
    rw [e, (hpick x hx).2.2] at hr; cases hr
  have hkeys : (addS S G M top).map (·.1) = (S ++ picks G F).map (·.1) := by rw [addS_is, ← hF, both_keys]
  have hrefs : (addS S G M top).flatMap (fun y => y.2.2.refs) = S.flatMap (fun y => y.2.2.refs) ++ T := by
    rw [addS_is, ← hF, both_refs, List.flatMap_append, ← hTp]
  have hat : ∀ k, (atL (addS S G M top) k).isSome = (atL (S ++ picks G F) k).isSome := fun k => atL_keys hkeys k
  have hsh : ∀ x ∈ S ++ picks G F, ∀ r ∈ x.2.2.refs, (atL (S ++ picks G F) r.data.toList).isSome = true := fun x hx r hr => by
    rcases List.mem_append.1 hx with hx | hx
    · rw [atL_or, hS.shut x hx r hr]; rfl
    · refine h1 r ?_
      rw [hM, hTp]
      exact List.mem_cons_of_mem _ (List.mem_flatMap.2 ⟨x, hx, hr⟩)
  have hmem : ∀ x' ∈ addS S G M top, ∃ x ∈ S ++ picks G F, x' = bothU T (shaB top) x := fun x' hx => by
    rw [addS_is, ← hF, ← hT] at hx
    obtain ⟨x, hx, e⟩ := List.mem_map.1 hx
    exact ⟨x, hx, e.symm⟩
  have his : ∀ x ∈ S ++ picks G F, ∃ t ∈ U, x.1 = ky t ∧ x.2.2.text = t ∧ x.2.2.refs = hashesT (nodeOf t) := fun x hx => by
    rcases List.mem_append.1 hx with hx | hx
    · exact hS.is x hx
    · obtain ⟨t, ht, e1, e2⟩ := (hpick x hx).2.1
      exact ⟨t, hLU t ht, e1, by rw [e2]; rfl, by rw [e2]; rfl⟩
  refine ⟨⟨fun x' hx' => ?_, fun x' hx' r hr => ?_, fun x' hx' => ?_, fun x' hx' => ?_, fun h hh => ?_⟩, fun k => ?_⟩
  · obtain ⟨x, hx, rfl⟩ := hmem x' hx'
    exact his x hx
  · obtain ⟨x, hx, rfl⟩ := hmem x' hx'
    rw [hat]; exact hsh x hx r hr
  · obtain ⟨x, hx, rfl⟩ := hmem x' hx'
    rw [hrefs, cK_app]
    show x.2.2.used + ((cK T x.1 : Nat) : Int) = ((cK _ x.1 + cK T x.1 : Nat) : Int)
    rcases List.mem_append.1 hx with hx | hx
    · rw [hS.used x hx]; omega
    · obtain ⟨t, ht, e1, e2⟩ := (hpick x hx).2.1
      rw [e2, cK_none (T := S.flatMap fun y => y.2.2.refs) fun r hr => ?_]
      · show (0 : Int) + _ = _; omega
      · obtain ⟨y, hy, hr⟩ := List.mem_flatMap.1 hr
        exact hnot x hx r (hS.shut y hy r hr)
  · obtain ⟨x, hx, rfl⟩ := hmem x' hx'
    rw [cK_app]
    show x.2.2.held + ((cK [shaB top] x.1 : Nat) : Int) = ((cK H x.1 + cK [shaB top] x.1 : Nat) : Int)
    rcases List.mem_append.1 hx with hx | hx
    · rw [hS.held x hx]; omega
    · obtain ⟨t, ht, e1, e2⟩ := (hpick x hx).2.1
      rw [e2, cK_none (T := H) fun r hr => hnot x hx r (hS.hin r hr)]
      show (0 : Int) + _ = _; omega
  · rw [hat]
    rcases List.mem_append.1 hh with hh | hh
    · rw [atL_or, hS.hin h hh]; rfl
    · rw [List.mem_singleton] at hh
      subst hh
      exact h1 _ (by rw [hM]; exact List.mem_cons_self)
  · rw [hkeys, List.map_append, List.mem_append]
    constructor
    · rintro (h | h)
      · exact .inl h
      · obtain ⟨x, hx, e⟩ := List.mem_map.1 h
        obtain ⟨t, ht, e1, _⟩ := (hpick x hx).2.1
        exact .inr ⟨t, ht, e.symm.trans e1⟩
    · rintro (h | ⟨t, ht, rfl⟩)
      · exact .inl h
      · rw [← List.mem_append, ← List.map_append, ← has_iff]
        refine hR (fun h => (atL (S ++ picks G F) h.data.toList).isSome = true) (fun t ht h r hr => ?_) (h1 _ (by rw [hM]; exact List.mem_cons_self)) t ht
        obtain ⟨x, hx⟩ := Option.isSome_iff_exists.1 h
        obtain ⟨m1, m2⟩ := atL_mem hx
        obtain ⟨t', ht', e1, _, e3⟩ := his x m1
        have : t' = t := ky_inj hU ht' (hLU t ht) (e1.symm.trans m2)
        subst this
        exact hsh x m1 r (by rw [e3]; exact hr)
/-- What a key refers to. -/
noncomputable def refF (U : List ByteArray) (k : Key) : List ByteArray := match U.find? (fun t => decide (ky t = k)) with | some t => hashesT (nodeOf t) | none => []
theorem SInv.refF {U H : List ByteArray} {S : List Nd5} (hU : InjL U) (h : SInv U H S) : S.flatMap (fun y => y.2.2.refs) = (S.map (·.1)).flatMap (refF U) := by
  rw [List.flatMap_map]
  have hx : ∀ x ∈ S, x.2.2.refs = Go.Proofs.YtneojlgbcaejmaaGreatDoor.refF U x.1 := fun x hx => by
    obtain ⟨t, ht, e1, _, e3⟩ := h.is x hx
    unfold Go.Proofs.YtneojlgbcaejmaaGreatDoor.refF
    cases hf : U.find? (fun t => decide (ky t = x.1)) with
    | none => rw [List.find?_eq_none] at hf; exact absurd e1.symm (by simpa using hf t ht)
    | some t' =>
      have h1 := List.find?_some hf
      have h2 := List.mem_of_find?_eq_some hf
      have : t' = t := ky_inj hU h2 ht ((of_decide_eq_true h1).trans e1)
      subst this; exact e3
  clear h
  induction S with
  | nil => rfl
  | cons x S ih =>
    rw [List.flatMap_cons, List.flatMap_cons, hx x List.mem_cons_self, ih fun y hy => hx y (List.mem_cons_of_mem _ hy)]
theorem keys_perm {A B : List Key} (ha : A.Nodup) (hb : B.Nodup) (h : ∀ k, k ∈ A ↔ k ∈ B) : A.Perm B := (List.perm_ext_iff_of_nodup ha hb).2 h
/-- Two stores of the same keys are the same. -/
theorem order_same {U H H' : List ByteArray} {S T : List Nd5} (hU : InjL U) (hS : SInv U H S) (hT : SInv U H' T) (nS : (S.map (·.1)).Nodup) (nT : (T.map (·.1)).Nodup) (hk : ∀ k, k ∈ S.map (·.1) ↔ k ∈ T.map (·.1)) (hH : H.Perm H') (k : Key) :
    countO (atL S k) = countO (atL T k) ∧ heldO (atL S k) = heldO (atL T k) := by
  have hp := keys_perm nS nT hk
  have hu : ∀ k, cK (S.flatMap fun y => y.2.2.refs) k = cK (T.flatMap fun y => y.2.2.refs) k := fun k => by
    rw [hS.refF hU, hT.refF hU]
    exact cK_perm (hp.flatMap_right _) k
  cases ha : atL S k with
  | none =>
    cases hb : atL T k with
    | none => exact ⟨rfl, rfl⟩
    | some y =>
      have := (hk k).2 (has_iff.1 (by rw [hb]; rfl))
      rw [← has_iff, ha] at this; cases this
  | some x =>
    cases hb : atL T k with
    | none =>
      have := (hk k).1 (has_iff.1 (by rw [ha]; rfl))
      rw [← has_iff, hb] at this; cases this
    | some y =>
      obtain ⟨x1, x2⟩ := atL_mem ha
      obtain ⟨y1, y2⟩ := atL_mem hb
      have e1 : x.2.2.used = y.2.2.used := by rw [hS.used x x1, hT.used y y1, hu, x2, y2]
      have e2 : x.2.2.held = y.2.2.held := by rw [hS.held x x1, hT.held y y1, x2, y2, cK_perm hH]
      exact ⟨by show _ + _ = _ + _; rw [e1, e2], e2⟩
/-- What is there of a text of U. -/
theorem SInv.text {U H : List ByteArray} {S : List Nd5} (hU : InjL U) (h : SInv U H S) {t : ByteArray} (ht : t ∈ U) (hk : ky t ∈ S.map (·.1)) : ∃ x, atL S (ky t) = some x ∧ x ∈ S ∧ x.2.2.text = t ∧ x.2.2.refs = hashesT (nodeOf t) := by
  obtain ⟨x, hx⟩ := Option.isSome_iff_exists.1 (has_iff.2 hk)
  obtain ⟨x1, x2⟩ := atL_mem hx
  obtain ⟨t', ht', e1, e2, e3⟩ := h.is x x1
  have : t' = t := ky_inj hU ht' ht (e1.symm.trans x2)
  subst this
  exact ⟨x, hx, x1, e2, e3⟩
theorem SInv.cnt {U H : List ByteArray} {S : List Nd5} (hU : InjL U) (h : SInv U H S) (w : World) {L : List ByteArray} {top : ByteArray} (hT : TextsP L top) (hLU : ∀ t ∈ L, t ∈ U) (hL : ∀ t ∈ L, ky t ∈ S.map (·.1)) (hH : shaB top ∈ H) {t : ByteArray} (ht : t ∈ L) : 1 ≤ countO (atL S (ky t)) := by
  obtain ⟨x, hx, x1, x2, x3⟩ := h.text hU (hLU t ht) (hL t ht)
  have hk := (atL_mem hx).2
  rw [hx]
  show (1 : Int) ≤ x.2.2.used + x.2.2.held
  rw [h.used x x1, h.held x x1, hk]
  obtain ⟨i, hi, e⟩ := List.mem_iff_getElem.1 ht
  cases i with
  | zero =>
    have : t = top := by
      have := hT.head
      rw [List.getElem?_eq_getElem hi] at this
      rw [← e]; exact Option.some.inj this
    subst this
    have := cK_pos hH
    unfold ky
    omega
  | succ i =>
    obtain ⟨_, t', ht', n, hn, hm⟩ := hT.told i t (by rw [List.getElem?_eq_getElem hi, e])
    obtain ⟨y, hy, y1, y2, y3⟩ := h.text hU (hLU t' ht') (hL t' ht')
    have hm2 : shaB t ∈ S.flatMap fun y => y.2.2.refs := List.mem_flatMap.2 ⟨y, y1, by rw [y3, isNode_inj w (nodeOf_is hn) hn]; exact hm⟩
    have := cK_pos hm2
    unfold ky
    omega
/-- All nodes of a map are told from its first one on. -/
theorem reach (w : World) (P : ByteArray → Prop) : ∀ (f : Nat) (l : List Pair), RowsOk f l → (∀ t ∈ flatT (buildT (f + 1) l), P (shaB t) → ∀ h ∈ hashesT (nodeOf t), P h) → P (shaB (nodeB (nodeF (buildT f) l))) → ∀ t ∈ flatT (buildT (f + 1) l), P (shaB t) := by
  intro f
  induction f with
  | zero =>
    intro l h _ h0 t ht
    have e2 : belowF (buildT 0) l = [] := by have := rows_one h; unfold belowF; rw [if_pos (by omega)]
    have eT : flatT (buildT (0 + 1) l) = [nodeB (nodeF (buildT 0) l)] := by
      show flatT (.mk (nodeB (nodeF (buildT 0) l)) (belowF (buildT 0) l)) = _
      rw [flatT, e2]; simp [flatTs]
    rw [eT, List.mem_singleton] at ht
    subst ht; exact h0
  | succ f ih =>
    intro l h hcl h0 t ht
    have eT : flatT (buildT (f + 1 + 1) l) = nodeB (nodeF (buildT (f + 1)) l) :: flatTs (belowF (buildT (f + 1)) l) := by
      show flatT (.mk (nodeB (nodeF (buildT (f + 1)) l)) (belowF (buildT (f + 1)) l)) = _
      rw [flatT]
    have hh := hashes_below (f + 1) l h
    have hroot : IsNode (nodeB (nodeF (buildT (f + 1)) l)) (nodeF (buildT (f + 1)) l) := ⟨rfl, f + 1, (good (f + 1) l h).1⟩
    rw [eT] at ht
    rcases List.mem_cons.1 ht with rfl | ht
    · exact h0
    obtain ⟨K, hK, ht⟩ := flatTs_mem.1 ht
    obtain ⟨g, m, eg, e, h1, h32⟩ := below_kid h hK
    obtain rfl : f = g := by omega
    subst e
    have hsub : ∀ t ∈ flatT (buildT (f + 1) m), t ∈ flatT (buildT (f + 1 + 1) l) := fun t ht => by
      rw [eT]; exact List.mem_cons_of_mem _ (flatTs_mem.2 ⟨_, hK, ht⟩)
    refine ih m h1 (fun t ht => hcl t (hsub t ht)) ?_ t ht
    refine hcl _ (by rw [eT]; exact List.mem_cons_self) h0 _ ?_
    rw [isNode_inj w (nodeOf_is hroot) hroot, hh]
    exact List.mem_map.2 ⟨_, hK, rfl⟩
theorem root_all (w : World) {l : List Pair} (h : checkN l = 0) : RootP (firsts (flatT (trieT l))) (trieT l).text := fun P h1 h2 t ht =>
  reach w P 12 (rowsL l) (rows_ok (check_ok h)) (fun t ht => h1 t ((firsts_mem _ _).2 ht)) h2 t ((firsts_mem _ _).1 ht)
theorem texts_shut (w : World) {l : List Pair} (h : checkN l = 0) (hl : (firsts (flatT (trieT l))).length ≤ 1000) : ShutL (firsts (flatT (trieT l))) :=
  ⟨fun t ht => by obtain ⟨n, h1, _⟩ := (texts h).node t ht; exact ⟨n, h1⟩,
   fun t ht x hx => by
    obtain ⟨n, h1, h2⟩ := (texts h).node t ht
    rw [isNode_inj w (nodeOf_is h1) h1] at hx
    exact h2 x hx, hl⟩
theorem StoreAt.nd {W : World} {s bm : Nat} {room : Int} {S : List Nd5} (h : StoreAt W s bm room S) : (S.map (·.1)).Nodup := by
  obtain ⟨es, ck, _, hv⟩ := h.mp.mp
  have := hv.keys
  rw [List.map_map] at this
  exact this
theorem keys_len {L : List ByteArray} (hn : L.Nodup) (hi : InjL L) {K : List Key} (h : ∀ t ∈ L, ky t ∈ K) : L.length ≤ K.length := by
  have h1 : (L.map ky).Nodup := by
    clear h
    induction L with
    | nil => simp
    | cons t L ih =>
      rw [List.nodup_cons] at hn
      rw [List.map_cons, List.nodup_cons]
      refine ⟨fun hm => ?_, ih hn.2 fun x hx y hy => hi x (List.mem_cons_of_mem _ hx) y (List.mem_cons_of_mem _ hy)⟩
      obtain ⟨s, hs, e⟩ := List.mem_map.1 hm
      have : s = t := ky_inj hi (List.mem_cons_of_mem _ hs) List.mem_cons_self e
      subst this; exact hn.1 hs
  have := List.Nodup.length_le_of_subset h1 (l₂ := K) (fun k hk => by
    obtain ⟨t, ht, rfl⟩ := List.mem_map.1 hk
    exact h t ht)
  simpa using this
/-- Bounds of what is counted. -/
theorem addS_bounds {S G : List Nd5} {M : List ByteArray} {top : ByteArray} {n : Int} (hS : ∀ x ∈ S, 0 ≤ x.2.2.used ∧ x.2.2.used ≤ n ∧ 0 ≤ x.2.2.held ∧ x.2.2.held ≤ n) (hn : 0 ≤ n) {L : List ByteArray} (hG : G.map kvI = readG L) (hsh : Shut G) (hin : ∀ x ∈ M, (atL G x.data.toList).isSome = true) :
    ∀ x ∈ addS S G M top, 0 ≤ x.2.2.used ∧ x.2.2.used ≤ n + 16 * L.length + 1 ∧ 0 ≤ x.2.2.held ∧ x.2.2.held ≤ n + 16 * L.length + 1 := by
  intro x' hx'
  rw [addS_is] at hx'
  obtain ⟨x, hx, rfl⟩ := List.mem_map.1 hx'
  have hT : cK ((frK S M).flatMap (refsO G)) x.1 ≤ 16 * L.length := by
    have h1 := flatG_len hsh (frK S M)
    have h2 := (addS_len S G M top L hG hin).2
    have h3 : cK ((frK S M).flatMap (refsO G)) x.1 ≤ ((frK S M).flatMap (refsO G)).length := by
      unfold cK
      have := List.count_le_length (l := ((frK S M).flatMap (refsO G)).map (·.data.toList)) (a := x.1)
      rwa [List.length_map] at this
    omega
  have hH : cK [shaB top] x.1 ≤ 1 := by
    unfold cK
    exact List.count_le_length (l := [shaB top].map (·.data.toList)) (a := x.1)
  have hb : 0 ≤ x.2.2.used ∧ x.2.2.used ≤ n ∧ 0 ≤ x.2.2.held ∧ x.2.2.held ≤ n := by
    rcases List.mem_append.1 hx with hx | hx
    · exact hS x hx
    · obtain ⟨t, _, _, e⟩ := given_is hG (picks_mem hx).1
      rw [e]; exact ⟨Int.le_refl _, hn, Int.le_refl _, hn⟩
  refine ⟨?_, ?_, ?_, ?_⟩
  · show (0 : Int) ≤ x.2.2.used + ((cK _ x.1 : Nat) : Int); omega
  · show x.2.2.used + ((cK ((frK S M).flatMap (refsO G)) x.1 : Nat) : Int) ≤ _; omega
  · show (0 : Int) ≤ x.2.2.held + ((cK _ x.1 : Nat) : Int); omega
  · show x.2.2.held + ((cK [shaB top] x.1 : Nat) : Int) ≤ _; omega
end
end Go.Proofs.YtneojlgbcaejmaaGreatDoor
