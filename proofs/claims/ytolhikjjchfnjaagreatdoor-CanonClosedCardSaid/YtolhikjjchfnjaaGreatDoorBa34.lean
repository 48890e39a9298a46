/- Parts of the proof, one behind the other: OnlyA, ClosedA. Each is under no condition but those that it states. -/
import Derived.Test.YtolhikjjchfnjaaGreatDoorBa33
/- canon, plain: a map has one root; of another one the root is another one, or two texts collide. -/
namespace Go.Proofs.YtolhikjjchfnjaaGreatDoor
section
open Go Go.RowKit
set_option linter.unusedSimpArgs false
set_option linter.unusedVariables false
/-- Two contracts on one call speak of one end. -/
theorem agree {P : Program} {f : FuncId} {args : Array Value} {w : World} {R R' : Value → World → Prop}
    (h : Calls P f args w fun | .returned v, w' => R v w' | _, _ => False) (h' : Calls P f args w fun | .returned v, w' => R' v w' | _, _ => False) (hi : P.inits.idxOf? f = none) :
    ∃ v w', R v w' ∧ R' v w' := by
  obtain ⟨n, v, w1, e1, r1⟩ := h.done hi
  obtain ⟨m, v', w2, e2, r2⟩ := h'.done hi
  have a := runN_ended e1 m
  have b := runN_ended e2 n
  rw [Nat.add_comm, a] at b
  injection b with ho hw
  injection ho with hv
  subst hv hw
  exact ⟨_, _, r1, r2⟩
theorem agree_eq {P : Program} {f : FuncId} {args : Array Value} {w : World} {a b : Value} {R R' : World → Prop}
    (h : Calls P f args w fun e w' => e = .returned a ∧ R w') (h' : Calls P f args w fun e w' => e = .returned b ∧ R' w') (hi : P.inits.idxOf? f = none) : a = b := by
  obtain ⟨v, w', h1, h2⟩ := agree (R := fun v _ => v = a) (R' := fun v _ => v = b)
    (h.mono fun e w' hh => by obtain ⟨rfl, _⟩ := hh; rfl) (h'.mono fun e w' hh => by obtain ⟨rfl, _⟩ := hh; rfl) hi
  exact h1.symm.trans h2
theorem nodeV_inj {n m : NodeT} (h : n.V = m.V) : n = m := by
  obtain ⟨k, p, v, rs⟩ := n
  obtain ⟨k', p', v', rs'⟩ := m
  unfold NodeT.V NodeT.cells at h
  injection h with h
  have h := congrArg Array.toList h
  simp only [List.toList_toArray, List.cons.injEq, Value.int.injEq, Value.string.injEq] at h
  obtain ⟨⟨_, h1⟩, h2, h3, h4⟩ := h
  have h5 : rs = rs' := by
    have : ∀ a b : List ByteArray, a.map Value.string = b.map Value.string → a = b := fun a => by
      induction a with
      | nil => intro b hb; cases b with | nil => rfl | cons x y => cases hb
      | cons x r ih =>
        intro b hb
        cases b with
        | nil => cases hb
        | cons y t =>
          simp only [List.map_cons, List.cons.injEq, Value.string.injEq] at hb
          rw [hb.1, ih t hb.2]
    exact this _ _ h4
  have h1 : k = k' := by omega
  subst h1 h2 h3 h5; rfl
theorem nodeB_inj (w : World) {f g : Nat} {n m : NodeT} (hn : GoodW (InlD f) n) (hm : GoodW (InlD g) m) (h : nodeB n = nodeB m) : n = m := by
  have h1 := get_c4 (inlP f) w n hn
  have h2 := get_c4 (inlP g) w m hm
  rw [h] at h1
  have := agree_eq h1 h2 (by kernel_rfl)
  injection this with this
  have := congrArg Array.toList this
  simp only [List.toList_toArray, List.cons.injEq] at this
  exact nodeV_inj this.1
theorem text32_inj {a b : ByteArray} (ha : a.size = 32) (hb : b.size = 32) (h : textB a = textB b) : a = b := by
  obtain ⟨r, h1, h2⟩ := hash_text a ha
  obtain ⟨s, h3, h4⟩ := hash_text b hb
  rw [h] at h1 h2
  rw [h1] at h3
  obtain rfl := Option.some.inj h3
  rw [h2] at h4
  exact Option.some.inj h4
/-- No two of them collide. -/
def ApartL (xs ys : List ByteArray) : Prop := ∀ x ∈ xs, ∀ y ∈ ys, shaB x = shaB y → x = y
theorem refB_small {T : PT} (h : T.text.size < 32) : refB T.text = T.text := by unfold refB; rw [if_pos h]
theorem refB_big {T : PT} (h : ¬ T.text.size < 32) : refB T.text = textB (shaB T.text) := by unfold refB; rw [if_neg h]
theorem flat_small {f : Nat} {T : PT} {n : NodeT} (h : Stands f T n) (hs : T.text.size < 32) : flatT T = [T.text] := by
  have hk := h.small hs
  obtain ⟨x, ks⟩ := T
  have hk : ks = [] := hk
  subst hk
  unfold flatT flatTs; rfl
theorem held_big {T : PT} (h : ¬ T.text.size < 32) : flatTs (heldK T) = flatT T := by
  unfold heldK; rw [if_neg h]; simp [flatTs]
theorem text_mem (T : PT) : T.text ∈ flatT T := by cases T; unfold flatT; exact List.mem_cons_self
theorem sub_apart {f g : Nat} {T U : PT} {n m : NodeT} (hT : Stands f T n) (hU : Stands g U m) (hr : refB T.text = refB U.text) (H : ApartL (flatTs (heldK T)) (flatTs (heldK U))) : T.text = U.text ∧ ApartL (flatT T) (flatT U) := by
  by_cases h1 : T.text.size < 32
  · by_cases h2 : U.text.size < 32
    · rw [refB_small h1, refB_small h2] at hr
      refine ⟨hr, fun x hx y hy _ => ?_⟩
      rw [flat_small hT h1, List.mem_singleton] at hx
      rw [flat_small hU h2, List.mem_singleton] at hy
      rw [hx, hy, hr]
    · have := ref33 h2
      rw [← hr, refB_small h1] at this; omega
  · by_cases h2 : U.text.size < 32
    · have := ref33 h1
      rw [hr, refB_small h2] at this; omega
    · rw [refB_big h1, refB_big h2] at hr
      rw [held_big h1, held_big h2] at H
      exact ⟨H _ (text_mem T) _ (text_mem U) (text32_inj (shaB_size _) (shaB_size _) hr), H⟩
theorem nodeF_k (B : List Pair → PT) (l : List Pair) : (nodeF B l).kind = if l.length = 0 then 0 else if l.length = 1 then 1 else if 0 < comK l then 2 else 3 := by
  unfold nodeF; split
  · rfl
  · split
    · rfl
    · split <;> rfl
theorem rows_one {l : List Pair} (h : RowsOk 0 l) : l.length ≤ 1 := by
  rcases Nat.lt_or_ge l.length 2 with h2 | h2
  · omega
  · obtain ⟨a, ha⟩ : ∃ a, l[0]? = some a := ⟨_, List.getElem?_eq_getElem (by omega)⟩
    obtain ⟨b, hb⟩ : ∃ b, l[1]? = some b := ⟨_, List.getElem?_eq_getElem (by omega)⟩
    have hlt := pair_get h.rise (by omega) ha hb
    have := (h.size b (List.mem_of_getElem? hb)).1
    rw [show b.l = [] from List.eq_nil_of_length_eq_zero (by show b.1.size = 0; omega)] at hlt
    exact absurd hlt (not_lt_nil _)
theorem ba_ext {a b : ByteArray} (h : a.data.toList = b.data.toList) : a = b := by
  obtain ⟨⟨a⟩⟩ := a
  obtain ⟨⟨b⟩⟩ := b
  simp only at h
  subst h; rfl
theorem drop_inj (k : Nat) : ∀ {a b : List Pair}, (∀ p ∈ a, ∀ q ∈ b, p.l.take k = q.l.take k) → dropL k a = dropL k b → a = b
  | [], [], _, _ => rfl
  | [], q :: b, _, h => by simp [dropL] at h
  | p :: a, [], _, h => by simp [dropL] at h
  | p :: a, q :: b, h1, h => by
    unfold dropL at h
    rw [List.map_cons, List.map_cons] at h
    obtain ⟨h2, h3⟩ := List.cons.inj h
    have hv : p.2 = q.2 := (Prod.mk.inj h2).2
    have hd : p.1.extract k p.1.size = q.1.extract k q.1.size := (Prod.mk.inj h2).1
    have hd2 := congrArg (fun b : ByteArray => b.data.toList) hd
    simp only [ext_toList _ _ _ (Nat.le_refl _)] at hd2
    have ht := h1 p List.mem_cons_self q List.mem_cons_self
    have hk : p.l = q.l := by
      rw [← List.take_append_drop k p.l, ← List.take_append_drop k q.l, ht]
      exact congrArg _ hd2
    rw [pair_ext hk hv, drop_inj k (fun x hx y hy => h1 x (List.mem_cons_of_mem _ hx) y (List.mem_cons_of_mem _ hy)) h3]
theorem look_cut (x : UInt8) (r : List UInt8) : ∀ l : List Pair, look (cutL x.toNat l) (x :: r) = look l (x :: r)
  | [] => rfl
  | p :: l => by
    have ih := look_cut x r l
    unfold cutL at *
    rw [List.filter_cons]
    by_cases hp : pickB x.toNat p = true
    · rw [if_pos hp, look_cons, look_cons, ih]
    · rw [if_neg hp, ih, look_cons, if_neg]
      intro e
      exact hp (by unfold pickB; rw [show p.1.data.toList = x :: r from e.symm]; simp)
theorem cut_high {f : Nat} {l : List Pair} (h : RowsOk f l) {i : Nat} (hi : 16 ≤ i) : cutL i l = [] := by
  refine List.eq_nil_iff_forall_not_mem.2 fun p hp => ?_
  obtain ⟨h1, a, r, h2, h3⟩ := cutL_mem hp
  have := nib_lt (h.size p h1).2.2.1 h2
  omega
theorem look_nil_head {a : Pair} {l : List Pair} (h : (a :: l).Pairwise fun p q => Lt p.l q.l) : look (a :: l) [] = if a.1.size = 0 then some a.2 else none := by
  rw [look_cons]
  by_cases hz : a.1.size = 0
  · rw [if_pos hz, if_pos]
    exact (List.eq_nil_of_length_eq_zero (show a.1.data.toList.length = 0 from hz)).symm
  · rw [if_neg hz, if_neg]
    · refine look_none fun hm => ?_
      obtain ⟨q, hq, e⟩ := List.mem_map.1 hm
      have := (List.pairwise_cons.1 h).1 q hq
      rw [show q.l = [] from e] at this
      exact not_lt_nil _ this
    · intro e
      exact hz (by show a.1.data.toList.length = 0; rw [show a.1.data.toList = [] from e.symm]; rfl)
theorem only_short (B C : List Pair → PT) (l m : List Pair) (hn : nodeF B l = nodeF C m) (h : l.length ≤ 1 ∨ m.length ≤ 1) : l = m := by
  have hk := congrArg NodeT.kind hn
  rw [nodeF_k, nodeF_k] at hk
  by_cases l0 : l.length = 0
  · rw [if_pos l0] at hk
    have m0 : m.length = 0 := by
      by_cases m0 : m.length = 0
      · exact m0
      · rw [if_neg m0] at hk; split at hk
        · cases hk
        · split at hk <;> cases hk
    rw [List.eq_nil_of_length_eq_zero l0, List.eq_nil_of_length_eq_zero m0]
  by_cases m0 : m.length = 0
  · rw [if_pos m0, if_neg l0] at hk; split at hk
    · cases hk
    · split at hk <;> cases hk
  rw [if_neg l0, if_neg m0] at hk
  have l1 : l.length = 1 := by
    by_cases l1 : l.length = 1
    · exact l1
    · have m1 : m.length = 1 := by omega
      rw [if_neg l1, if_pos m1] at hk; split at hk <;> cases hk
  rw [if_pos l1] at hk
  have m1 : m.length = 1 := by
    by_cases m1 : m.length = 1
    · exact m1
    · rw [if_neg m1] at hk; split at hk <;> cases hk
  have e1 : nodeF B l = ⟨1, (l.getD 0 pd).1, (l.getD 0 pd).2, noRefs 16⟩ := by unfold nodeF; rw [if_neg l0, if_pos l1]
  have e2 : nodeF C m = ⟨1, (m.getD 0 pd).1, (m.getD 0 pd).2, noRefs 16⟩ := by unfold nodeF; rw [if_neg m0, if_pos m1]
  rw [e1, e2] at hn
  obtain ⟨_, h1, h2, _⟩ := NodeT.mk.inj hn
  obtain ⟨p, rfl⟩ := List.length_eq_one_iff.1 l1
  obtain ⟨q, rfl⟩ := List.length_eq_one_iff.1 m1
  have h1 : p.1 = q.1 := h1
  have h2 : p.2 = q.2 := h2
  rw [Prod.ext h1 h2]
theorem only_step (w : World) : ∀ (f : Nat) (l m : List Pair), RowsOk f l → RowsOk f m → ApartL (flatT (buildT (f + 1) l)) (flatT (buildT (f + 1) m)) → (buildT (f + 1) l).text = (buildT (f + 1) m).text → l = m := by
  intro f
  induction f with
  | zero =>
    intro l m hl hm _ ht
    exact only_short _ _ l m (nodeB_inj w (good 0 l hl).1 (good 0 m hm).1 ht) (.inl (rows_one hl))
  | succ f ih =>
    intro l m hl hm hA ht
    have hn : nodeF (buildT (f + 1)) l = nodeF (buildT (f + 1)) m := nodeB_inj w (good (f + 1) l hl).1 (good (f + 1) m hm).1 ht
    by_cases hs : l.length ≤ 1 ∨ m.length ≤ 1
    · exact only_short _ _ l m hn hs
    have hk := congrArg NodeT.kind hn
    rw [nodeF_k, nodeF_k, if_neg (show ¬ l.length = 0 by omega), if_neg (show ¬ l.length = 1 by omega), if_neg (show ¬ m.length = 0 by omega), if_neg (show ¬ m.length = 1 by omega)] at hk
    have l2 : 2 ≤ l.length := by omega
    have m2 : 2 ≤ m.length := by omega
    have hcl := com_all hl l2
    have hcm := com_all hm m2
    have eT : ∀ l : List Pair, flatT (buildT (f + 1 + 1) l) = nodeB (nodeF (buildT (f + 1)) l) :: flatTs (belowF (buildT (f + 1)) l) := fun l => by
      show flatT (.mk (nodeB (nodeF (buildT (f + 1)) l)) (belowF (buildT (f + 1)) l)) = _
      rw [flatT]
    rw [eT, eT] at hA
    have hA2 : ApartL (flatTs (belowF (buildT (f + 1)) l)) (flatTs (belowF (buildT (f + 1)) m)) := fun x hx y hy => hA x (List.mem_cons_of_mem _ hx) y (List.mem_cons_of_mem _ hy)
    by_cases kl : 0 < comK l
    · rw [if_pos kl] at hk
      have km : 0 < comK m := by
        by_cases km : 0 < comK m
        · exact km
        · rw [if_neg km] at hk; cases hk
      have hok : ∀ {l : List Pair}, RowsOk (f + 1) l → 2 ≤ l.length → 0 < comK l → RowsOk f (dropL (comK l) l) := fun {l} h h2 hk => by
        have hcom := com_all h h2
        exact (dropL_ok (comK l) h (fun p hp q hq => (hcom p hp).1.trans (hcom q hq).1.symm) (fun p hp => (hcom p hp).2)).mono (by omega)
      have hne : ∀ {l : List Pair}, 2 ≤ l.length → dropL (comK l) l ≠ [] := fun {l} h2 e => by have := dropL_len (comK l) l; rw [e] at this; simp at this; omega
      have eN : ∀ {l : List Pair}, 2 ≤ l.length → 0 < comK l → nodeF (buildT (f + 1)) l = ⟨2, (l.getD 0 pd).1.extract 0 (comK l), ⟨#[]⟩, refB (buildT (f + 1) (dropL (comK l) l)).text :: noRefs 15⟩ := fun {l} h2 hk => by
        unfold nodeF; rw [if_neg (by omega), if_neg (by omega), if_pos hk]
      have eB : ∀ {l : List Pair}, 2 ≤ l.length → 0 < comK l → belowF (buildT (f + 1)) l = heldK (buildT (f + 1) (dropL (comK l) l)) := fun {l} h2 hk => by
        unfold belowF; rw [if_neg (by omega), if_pos hk]
      rw [eN l2 kl, eN m2 km] at hn
      rw [eB l2 kl, eB m2 km] at hA2
      obtain ⟨_, hp, _, hr⟩ := NodeT.mk.inj hn
      obtain ⟨hr, _⟩ := List.cons.inj hr
      have gm : ∀ {l : List Pair}, 2 ≤ l.length → l.getD 0 pd ∈ l := fun {l} h => by rw [List.getD_eq_getElem?_getD, List.getElem?_eq_getElem (by omega)]; exact List.getElem_mem _
      have hsz : ∀ {l : List Pair}, RowsOk (f + 1) l → 2 ≤ l.length → ((l.getD 0 pd).1.extract 0 (comK l)).size = comK l := fun {l} h h2 => by
        have := (com_all h h2 _ (gm h2)).2
        rw [ByteArray.size_extract]; omega
      have hkk : comK l = comK m := by rw [← hsz hl l2, ← hsz hm m2, hp]
      have htk : ∀ {l : List Pair}, (l.getD 0 pd).l.take (comK l) = ((l.getD 0 pd).1.extract 0 (comK l)).data.toList := fun {l} => by
        rw [ByteArray.data_extract, Array.toList_extract, List.extract_eq_take_drop]; simp
      obtain ⟨e1, e2⟩ := sub_apart ((good f _ (hok hl l2 kl)).2.1 (hne l2)) ((good f _ (hok hm m2 km)).2.1 (hne m2)) hr hA2
      have e3 := ih _ _ (hok hl l2 kl) (hok hm m2 km) e2 e1
      rw [← hkk] at e3
      refine drop_inj (comK l) (fun p hp' q hq => ?_) e3
      rw [(hcl p hp').1, htk, hp, ← htk, ← (hcm q hq).1, hkk]
    · rw [if_neg kl] at hk
      have km : ¬ 0 < comK m := by
        by_cases km : 0 < comK m
        · rw [if_pos km] at hk; cases hk
        · exact km
      have eN : ∀ {l : List Pair}, 2 ≤ l.length → ¬ 0 < comK l → nodeF (buildT (f + 1)) l = ⟨3, ⟨#[]⟩, if (l.getD 0 pd).1.size = 0 then (l.getD 0 pd).2 else ⟨#[]⟩, (List.range 16).map fun i => if (cutL i l).length = 0 then ⟨#[]⟩ else refB (buildT (f + 1) (dropL 1 (cutL i l))).text⟩ := fun {l} h2 hk => by
        unfold nodeF; rw [if_neg (by omega), if_neg (by omega), if_neg hk]
      have eB : ∀ {l : List Pair}, 2 ≤ l.length → ¬ 0 < comK l → belowF (buildT (f + 1)) l = (List.range 16).flatMap fun i => if (cutL i l).length = 0 then [] else heldK (buildT (f + 1) (dropL 1 (cutL i l))) := fun {l} h2 hk => by
        unfold belowF; rw [if_neg (by omega), if_neg hk]
      rw [eN l2 kl, eN m2 km] at hn
      rw [eB l2 kl, eB m2 km] at hA2
      obtain ⟨_, _, hval, hrs⟩ := NodeT.mk.inj hn
      have hkid : ∀ {l : List Pair} {i : Nat}, (cutL i l).length ≠ 0 → dropL 1 (cutL i l) ≠ [] := fun {l i} hi e => by have := dropL_len 1 (cutL i l); rw [e] at this; simp at this; omega
      have hst : ∀ {l : List Pair} {i : Nat}, RowsOk (f + 1) l → (cutL i l).length ≠ 0 → Stands f (buildT (f + 1) (dropL 1 (cutL i l))) (nodeF (buildT f) (dropL 1 (cutL i l))) := fun {l i} h hi => (good f _ (sub_ok i h)).2.1 (hkid hi)
      have hcut : ∀ i, cutL i l = cutL i m := by
        intro i
        by_cases hi : i < 16
        · have hri := congrArg (fun L : List ByteArray => L[i]?) hrs
          simp only [List.getElem?_map, List.getElem?_range hi, Option.map_some, Option.some.injEq] at hri
          have hz : (⟨#[]⟩ : ByteArray).size = 0 := rfl
          by_cases cl : (cutL i l).length = 0
          · rw [if_pos cl] at hri
            by_cases cm : (cutL i m).length = 0
            · rw [List.eq_nil_of_length_eq_zero cl, List.eq_nil_of_length_eq_zero cm]
            · rw [if_neg cm] at hri
              have := (hst hm cm).may.1.pos
              rw [← hri] at this; exact absurd hz this
          · rw [if_neg cl] at hri
            by_cases cm : (cutL i m).length = 0
            · rw [if_pos cm] at hri
              have := (hst hl cl).may.1.pos
              rw [hri] at this; exact absurd hz this
            · rw [if_neg cm] at hri
              have hsub : ∀ {l : List Pair}, (cutL i l).length ≠ 0 → ∀ x ∈ flatTs (heldK (buildT (f + 1) (dropL 1 (cutL i l)))), x ∈ flatTs ((List.range 16).flatMap fun i => if (cutL i l).length = 0 then [] else heldK (buildT (f + 1) (dropL 1 (cutL i l)))) := fun {l} hc x hx => by
                obtain ⟨T', hT', hm'⟩ := flatTs_mem.1 hx
                refine flatTs_mem.2 ⟨T', List.mem_flatMap.2 ⟨i, List.mem_range.2 hi, ?_⟩, hm'⟩
                rw [if_neg hc]; exact hT'
              obtain ⟨e1, e2⟩ := sub_apart (hst hl cl) (hst hm cm) hri (fun x hx y hy => hA2 x (hsub cl x hx) y (hsub cm y hy))
              have e3 := ih _ _ (sub_ok i hl) (sub_ok i hm) e2 e1
              refine drop_inj 1 (fun p hp q hq => ?_) e3
              obtain ⟨_, a, r, h1, h2⟩ := cutL_mem hp
              obtain ⟨_, b, t, h3, h4⟩ := cutL_mem hq
              rw [h1, h3, UInt8.toNat_inj.1 (h2.trans h4.symm)]; rfl
        · rw [cut_high hl (by omega), cut_high hm (by omega)]
      refine rises_ext hl.rise hm.rise fun k => ?_
      cases k with
      | cons x r => rw [← look_cut x r l, ← look_cut x r m, hcut]
      | nil =>
        match l, m, l2, m2, hval, hl, hm with
        | a :: l', b :: m', _, _, hval, hl, hm =>
          rw [look_nil_head hl.rise, look_nil_head hm.rise]
          have hval : (if a.1.size = 0 then a.2 else (⟨#[]⟩ : ByteArray)) = if b.1.size = 0 then b.2 else ⟨#[]⟩ := hval
          have sa := (hl.size a List.mem_cons_self).2.2.2.1
          have sb := (hm.size b List.mem_cons_self).2.2.2.1
          have hz : (⟨#[]⟩ : ByteArray).size = 0 := rfl
          by_cases za : a.1.size = 0
          · rw [if_pos za] at hval ⊢
            by_cases zb : b.1.size = 0
            · rw [if_pos zb] at hval ⊢; rw [hval]
            · rw [if_neg zb] at hval; rw [hval] at sa; omega
          · rw [if_neg za] at hval ⊢
            by_cases zb : b.1.size = 0
            · rw [if_pos zb] at hval; rw [← hval] at sb; omega
            · rw [if_neg zb]
theorem path_inj : ∀ {a b : List UInt8}, pathL a = pathL b → a = b
  | [], [], _ => rfl
  | [], y :: b, h => by simp [pathL] at h
  | x :: a, [], h => by simp [pathL] at h
  | x :: a, y :: b, h => by
    have h : (x >>> 4) :: (x &&& 15) :: pathL a = (y >>> 4) :: (y &&& 15) :: pathL b := h
    injection h with h1 h
    injection h with h2 h
    have a1 := congrArg UInt8.toNat h1
    have a2 := congrArg UInt8.toNat h2
    rw [nib_hi, nib_hi] at a1
    rw [nib_lo, nib_lo] at a2
    rw [path_inj h, show x = y from UInt8.toNat_inj.1 (by omega)]
theorem rows_inj : ∀ {a b : List Pair}, rowsL a = rowsL b → a = b
  | [], [], _ => rfl
  | [], q :: b, h => by simp [rowsL] at h
  | p :: a, [], h => by simp [rowsL] at h
  | p :: a, q :: b, h => by
    unfold rowsL at h
    rw [List.map_cons, List.map_cons] at h
    injection h with h1 h2
    injection h1 with h3 h4
    have h5 : pathL p.k = pathL q.k := congrArg (fun b : ByteArray => b.data.toList) h3
    rw [pair_ext (path_inj h5) h4, rows_inj h2]
theorem trie_inj (w : World) {l m : List Pair} (hl : checkN l = 0) (hm : checkN m = 0) (hA : ApartL (flatT (trieT l)) (flatT (trieT m))) (ht : (trieT l).text = (trieT m).text) : l = m :=
  rows_inj (only_step w 12 _ _ (rows_ok (check_ok hl)) (rows_ok (check_ok hm)) hA ht)
theorem clash2_none {xs ys : List ByteArray} (h : clash2 xs ys = none) : ApartL xs ys := by
  intro x hx y hy he
  unfold clash2 at h
  have h1 := List.findSome?_eq_none_iff.1 h x hx
  unfold clashIn at h1
  rw [Option.map_eq_none_iff, List.find?_eq_none] at h1
  have h2 := h1 y hy
  unfold collB at h2
  rw [he] at h2
  simpa using h2
theorem clash2_some {xs ys : List ByteArray} {x y : ByteArray} (h : clash2 xs ys = some (x, y)) : collB x y = true ∧ x ∈ xs ∧ y ∈ ys := by
  unfold clash2 at h
  obtain ⟨a, ha, h⟩ := List.exists_of_findSome?_eq_some h
  unfold clashIn at h
  obtain ⟨b, hb, h⟩ := Option.map_eq_some_iff.1 h
  obtain ⟨rfl, rfl⟩ := Prod.mk.inj h
  exact ⟨List.find?_some hb, ha, List.mem_of_find?_eq_some hb⟩
/-- A map has one root; of another one it is another one, or two texts are told that collide. -/
theorem only (w : World) {l m : List Pair} (hl : checkN l = 0) (hm : checkN m = 0) :
    (l = m → clashN l m = none) ∧ (l ≠ m → shaB (trieT l).text ≠ shaB (trieT m).text → clashN l m = none) ∧ (l ≠ m → shaB (trieT l).text = shaB (trieT m).text → ∃ x y, clashN l m = some (x, y) ∧ collB x y = true) := by
  refine ⟨fun h => ?_, fun _ h => ?_, fun hne hs => ?_⟩
  · unfold clashN; rw [if_pos (.inr (.inr (.inl ((sameL_iff l m).2 h))))]
  · unfold clashN; rw [if_pos (.inr (.inr (.inr h)))]
  · have e : clashN l m = clash2 (firsts (flatT (trieT l))) (firsts (flatT (trieT m))) := by
      unfold clashN
      rw [if_neg]
      rintro (h | h | h | h)
      · exact h hl
      · exact h hm
      · exact hne ((sameL_iff l m).1 h)
      · exact h hs
    rw [e]
    cases hc : clash2 (firsts (flatT (trieT l))) (firsts (flatT (trieT m))) with
    | some r => obtain ⟨x, y⟩ := r; exact ⟨x, y, rfl, (clash2_some hc).1⟩
    | none =>
      have hA0 := clash2_none hc
      have hA : ApartL (flatT (trieT l)) (flatT (trieT m)) := fun x hx y hy => hA0 x ((firsts_mem _ _).2 hx) y ((firsts_mem _ _).2 hy)
      exact absurd (trie_inj w hl hm hA (hA _ (text_mem _) _ (text_mem _) hs)) hne
end
end Go.Proofs.YtolhikjjchfnjaaGreatDoor
/- canon, plain: the nodes are just those that are referred to. -/
namespace Go.Proofs.YtolhikjjchfnjaaGreatDoor
section
open Go Go.RowKit
set_option linter.unusedSimpArgs false
set_option linter.unusedVariables false
/-- The hash of which a ref is the text. -/
def hashR (r : ByteArray) : Option ByteArray := (cutN r).bind (hashB r)
def hashesT (n : NodeT) : List ByteArray := n.refs.filterMap hashR
theorem hashR_nil : hashR ⟨#[]⟩ = none := by
  unfold hashR cutN
  rw [dif_neg (by decide)]; rfl
theorem hashR_text {h : ByteArray} (hs : h.size = 32) : hashR (textB h) = some h := by
  obtain ⟨r, h1, h2⟩ := hash_text h hs
  unfold hashR; rw [h1]; exact h2
theorem hashR_inl {I : ByteArray → NodeT → Prop} (HI : InlP I) {r : ByteArray} {m : NodeT} (h : I r m) : hashR r = none := by
  obtain ⟨q, h1, h2⟩ := HI.nohash r m h
  unfold hashR; rw [h1]; exact h2
theorem hashR_kid {f : Nat} {T : PT} {n : NodeT} (h : Stands f T n) : (hashR (refB T.text)).toList = (heldK T).map fun k => shaB k.text := by
  by_cases hs : T.text.size < 32
  · rw [hashR_inl (inlP (f + 1)) (h.may.2 hs)]
    unfold heldK; rw [if_pos hs]; rfl
  · rw [refB_big hs, hashR_text (shaB_size _)]
    unfold heldK; rw [if_neg hs]; rfl
theorem hashes_no (k : Nat) : (noRefs k).filterMap hashR = [] := by
  unfold noRefs
  rw [List.filterMap_eq_nil_iff]
  intro r hr
  rw [List.eq_of_mem_replicate hr, hashR_nil]
theorem filter_flat {α : Type} (g : α → ByteArray) (k : α → List PT) : ∀ L : List α, (∀ i ∈ L, (hashR (g i)).toList = (k i).map fun k => shaB k.text) → (L.map g).filterMap hashR = (L.flatMap k).map fun k => shaB k.text
  | [], _ => rfl
  | x :: L, h => by
    rw [List.map_cons, List.flatMap_cons, List.map_append, ← filter_flat g k L fun i hi => h i (List.mem_cons_of_mem _ hi), ← h x List.mem_cons_self, List.filterMap_cons]
    cases hashR (g x) <;> rfl
theorem hashes_below (f : Nat) (l : List Pair) (h : RowsOk f l) : hashesT (nodeF (buildT f) l) = (belowF (buildT f) l).map fun k => shaB k.text := by
  unfold hashesT
  by_cases h0 : l.length = 0
  · have e1 : nodeF (buildT f) l = emptyN := by unfold nodeF; rw [if_pos h0]
    have e2 : belowF (buildT f) l = [] := by unfold belowF; rw [if_pos (by omega)]
    rw [e1, e2]; exact hashes_no 16
  by_cases h1 : l.length = 1
  · have e1 : nodeF (buildT f) l = ⟨1, (l.getD 0 pd).1, (l.getD 0 pd).2, noRefs 16⟩ := by unfold nodeF; rw [if_neg h0, if_pos h1]
    have e2 : belowF (buildT f) l = [] := by unfold belowF; rw [if_pos (by omega)]
    rw [e1, e2]; exact hashes_no 16
  have h2 : 2 ≤ l.length := by omega
  cases f with
  | zero => have := rows_one h; omega
  | succ f =>
    by_cases hk : 0 < comK l
    · have hcom := com_all h h2
      have hok : RowsOk f (dropL (comK l) l) := (dropL_ok (comK l) h (fun p hp q hq => (hcom p hp).1.trans (hcom q hq).1.symm) (fun p hp => (hcom p hp).2)).mono (by omega)
      have hne : dropL (comK l) l ≠ [] := fun e => by have := dropL_len (comK l) l; rw [e] at this; simp at this; omega
      have hst := (good f _ hok).2.1 hne
      have e1 : nodeF (buildT (f + 1)) l = ⟨2, (l.getD 0 pd).1.extract 0 (comK l), ⟨#[]⟩, refB (buildT (f + 1) (dropL (comK l) l)).text :: noRefs 15⟩ := by unfold nodeF; rw [if_neg h0, if_neg h1, if_pos hk]
      have e2 : belowF (buildT (f + 1)) l = heldK (buildT (f + 1) (dropL (comK l) l)) := by unfold belowF; rw [if_neg (by omega), if_pos hk]
      rw [e1, e2, ← hashR_kid hst]
      show (refB (buildT (f + 1) (dropL (comK l) l)).text :: noRefs 15).filterMap hashR = _
      rw [List.filterMap_cons, hashes_no]
      cases hashR (refB (buildT (f + 1) (dropL (comK l) l)).text) <;> rfl
    · have e1 : (nodeF (buildT (f + 1)) l).refs = (List.range 16).map fun i => if (cutL i l).length = 0 then ⟨#[]⟩ else refB (buildT (f + 1) (dropL 1 (cutL i l))).text := by unfold nodeF; rw [if_neg h0, if_neg h1, if_neg hk]
      have e2 : belowF (buildT (f + 1)) l = (List.range 16).flatMap fun i => if (cutL i l).length = 0 then [] else heldK (buildT (f + 1) (dropL 1 (cutL i l))) := by unfold belowF; rw [if_neg (by omega), if_neg hk]
      rw [e1, e2]
      refine filter_flat _ _ _ fun i hi => ?_
      by_cases hc : (cutL i l).length = 0
      · rw [if_pos hc, if_pos hc, hashR_nil]; rfl
      · rw [if_neg hc, if_neg hc]
        exact hashR_kid ((good f _ (sub_ok i h)).2.1 (fun e => by have := dropL_len 1 (cutL i l); rw [e] at this; simp at this; omega))
theorem below_kid {f : Nat} {l : List Pair} (h : RowsOk f l) {K : PT} (hK : K ∈ belowF (buildT f) l) : ∃ g m, f = g + 1 ∧ K = buildT (g + 1) m ∧ RowsOk g m ∧ 32 ≤ K.text.size := by
  have held : ∀ {T : PT}, K ∈ heldK T → K = T ∧ 32 ≤ K.text.size := fun {T} h => by
    unfold heldK at h
    split at h
    · cases h
    · rw [List.mem_singleton] at h; subst h; exact ⟨rfl, by omega⟩
  unfold belowF at hK
  by_cases h1 : l.length ≤ 1
  · rw [if_pos h1] at hK; cases hK
  rw [if_neg h1] at hK
  cases f with
  | zero => have := rows_one h; omega
  | succ f =>
    by_cases hk : 0 < comK l
    · rw [if_pos hk] at hK
      have hcom := com_all h (by omega)
      have hok : RowsOk f (dropL (comK l) l) := (dropL_ok (comK l) h (fun p hp q hq => (hcom p hp).1.trans (hcom q hq).1.symm) (fun p hp => (hcom p hp).2)).mono (by omega)
      obtain ⟨e, hs⟩ := held hK
      exact ⟨f, _, rfl, e, hok, hs⟩
    · rw [if_neg hk] at hK
      obtain ⟨i, _, hK⟩ := List.mem_flatMap.1 hK
      split at hK
      · cases hK
      · obtain ⟨e, hs⟩ := held hK
        exact ⟨f, _, rfl, e, sub_ok i h, hs⟩
def IsNode (t : ByteArray) (n : NodeT) : Prop := t = nodeB n ∧ ∃ g, GoodW (InlD g) n
structure ClosedP (L B : List ByteArray) : Prop where
  node : ∀ t ∈ L, ∃ n, IsNode t n ∧ ∀ h ∈ hashesT n, ∃ t' ∈ L, h = shaB t'
  told : ∀ t ∈ B, 32 ≤ t.size ∧ ∃ t' ∈ L, ∃ n, IsNode t' n ∧ shaB t ∈ hashesT n
theorem closed : ∀ (f : Nat) (l : List Pair), RowsOk f l → ClosedP (flatT (buildT (f + 1) l)) (flatTs (belowF (buildT f) l)) := by
  intro f
  induction f with
  | zero =>
    intro l h
    have e2 : belowF (buildT 0) l = [] := by have := rows_one h; unfold belowF; rw [if_pos (by omega)]
    have eT : flatT (buildT (0 + 1) l) = [nodeB (nodeF (buildT 0) l)] := by
      show flatT (.mk (nodeB (nodeF (buildT 0) l)) (belowF (buildT 0) l)) = _
      rw [flatT, e2]; simp [flatTs]
    have hh := hashes_below 0 l h
    rw [e2] at hh
    rw [eT, e2]
    refine ⟨fun t ht => ?_, fun t ht => by simp [flatTs] at ht⟩
    rw [List.mem_singleton] at ht
    exact ⟨_, ⟨ht, 0, (good 0 l h).1⟩, fun x hx => by rw [hh] at hx; cases hx⟩
  | succ f ih =>
    intro l h
    have eT : flatT (buildT (f + 1 + 1) l) = nodeB (nodeF (buildT (f + 1)) l) :: flatTs (belowF (buildT (f + 1)) l) := by
      show flatT (.mk (nodeB (nodeF (buildT (f + 1)) l)) (belowF (buildT (f + 1)) l)) = _
      rw [flatT]
    have hh := hashes_below (f + 1) l h
    have hroot : IsNode (nodeB (nodeF (buildT (f + 1)) l)) (nodeF (buildT (f + 1)) l) := ⟨rfl, f + 1, (good (f + 1) l h).1⟩
    have hsub : ∀ {K : PT}, K ∈ belowF (buildT (f + 1)) l → ∀ t ∈ flatT K, t ∈ flatT (buildT (f + 1 + 1) l) := fun {K} hK t ht => by
      rw [eT]; exact List.mem_cons_of_mem _ (flatTs_mem.2 ⟨K, hK, ht⟩)
    have hkid : ∀ {K : PT}, K ∈ belowF (buildT (f + 1)) l → ∃ m, K = buildT (f + 1) m ∧ RowsOk f m ∧ 32 ≤ K.text.size := fun {K} hK => by
      obtain ⟨g, m, e, h1, h2, h3⟩ := below_kid h hK
      obtain rfl : f = g := by omega
      exact ⟨m, h1, h2, h3⟩
    constructor
    · intro t ht
      rw [eT] at ht
      rcases List.mem_cons.1 ht with rfl | ht
      · refine ⟨_, hroot, fun x hx => ?_⟩
        rw [hh] at hx
        obtain ⟨K, hK, rfl⟩ := List.mem_map.1 hx
        exact ⟨_, hsub hK _ (text_mem K), rfl⟩
      · obtain ⟨K, hK, ht⟩ := flatTs_mem.1 ht
        obtain ⟨m, rfl, hm, _⟩ := hkid hK
        obtain ⟨n, h1, h2⟩ := (ih m hm).node t ht
        exact ⟨n, h1, fun x hx => by obtain ⟨t', ht', e⟩ := h2 x hx; exact ⟨t', hsub hK _ ht', e⟩⟩
    · intro t ht
      obtain ⟨K, hK, ht⟩ := flatTs_mem.1 ht
      obtain ⟨m, rfl, hm, h32⟩ := hkid hK
      have eK : flatT (buildT (f + 1) m) = nodeB (nodeF (buildT f) m) :: flatTs (belowF (buildT f) m) := by
        show flatT (.mk (nodeB (nodeF (buildT f) m)) (belowF (buildT f) m)) = _
        rw [flatT]
      rw [eK] at ht
      rcases List.mem_cons.1 ht with rfl | ht
      · refine ⟨h32, _, ?_, _, hroot, ?_⟩
        · rw [eT]; exact List.mem_cons_self
        · rw [hh]; exact List.mem_map.2 ⟨_, hK, rfl⟩
      · obtain ⟨h1, t', ht', n, h2, h3⟩ := (ih m hm).told t ht
        exact ⟨h1, t', hsub hK _ ht', n, h2, h3⟩
theorem firsts_nodup (l : List ByteArray) : (firsts l).Nodup := by
  unfold firsts
  have : ∀ (l acc : List ByteArray), acc.Nodup → (l.foldl addF acc).Nodup := fun l => by
    induction l with
    | nil => exact fun _ h => h
    | cons x r ih =>
      intro acc h
      rw [List.foldl_cons]
      refine ih _ ?_
      unfold addF
      split
      · exact h
      · rename_i hn
        have hm : x ∉ acc := fun hx => hn ((memB_iff acc x).2 hx)
        rw [List.nodup_append]
        exact ⟨h, by simp, fun a ha b hb e => by simp at hb; subst hb; subst e; exact hm ha⟩
  exact this l [] (by simp)
/-- The texts of a map's nodes: what CanonClosed asks of them. -/
structure TextsP (L : List ByteArray) (top : ByteArray) : Prop where
  head : L[0]? = some top
  nodup : L.Nodup
  node : ∀ t ∈ L, ∃ n, IsNode t n ∧ ∀ h ∈ hashesT n, ∃ t' ∈ L, h = shaB t'
  told : ∀ (i : Nat) t, L[i + 1]? = some t → 32 ≤ t.size ∧ ∃ t' ∈ L, ∃ n, IsNode t' n ∧ shaB t ∈ hashesT n
theorem texts {l : List Pair} (h : checkN l = 0) : TextsP (firsts (flatT (trieT l))) (trieT l).text := by
  have hc := closed 12 (rowsL l) (rows_ok (check_ok h))
  have eT : flatT (trieT l) = (trieT l).text :: flatTs (belowF (buildT 12) (rowsL l)) := by
    show flatT (.mk (nodeB (nodeF (buildT 12) (rowsL l))) (belowF (buildT 12) (rowsL l))) = _
    rw [flatT]; rfl
  have hc : ClosedP (flatT (trieT l)) (flatTs (belowF (buildT 12) (rowsL l))) := hc
  have hnd := firsts_nodup (flatT (trieT l))
  refine ⟨flatT_head _, hnd, fun t ht => ?_, fun i t ht => ?_⟩
  · obtain ⟨n, h1, h2⟩ := hc.node t ((firsts_mem _ _).1 ht)
    exact ⟨n, h1, fun x hx => by obtain ⟨t', ht', e⟩ := h2 x hx; exact ⟨t', (firsts_mem _ _).2 ht', e⟩⟩
  · have hm := (firsts_mem _ _).1 (List.mem_of_getElem? ht)
    have hne : t ≠ (trieT l).text := fun e => by
      have h0 := flatT_head (trieT l)
      obtain ⟨h1, e1⟩ := List.getElem?_eq_some_iff.1 ht
      obtain ⟨h2, e2⟩ := List.getElem?_eq_some_iff.1 h0
      exact List.pairwise_iff_getElem.1 hnd 0 (i + 1) h2 h1 (by omega) (e2.trans (e.symm.trans e1.symm))
    rw [eT] at hm
    rcases List.mem_cons.1 hm with e | hm
    · exact absurd e hne
    · obtain ⟨h1, t', ht', n, h2⟩ := hc.told t hm
      exact ⟨h1, t', (firsts_mem _ _).2 ht', n, h2⟩
theorem isNode_inj (w : World) {t : ByteArray} {n m : NodeT} (h : IsNode t n) (k : IsNode t m) : n = m := by
  obtain ⟨h1, f, h2⟩ := h
  obtain ⟨k1, g, k2⟩ := k
  exact nodeB_inj w h2 k2 (h1.symm.trans k1)
end
end Go.Proofs.YtolhikjjchfnjaaGreatDoor
