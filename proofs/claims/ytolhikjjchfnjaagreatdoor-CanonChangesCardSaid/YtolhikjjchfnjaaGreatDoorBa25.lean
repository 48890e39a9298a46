/- Parts of the proof, one behind the other: CanonR, CanonS, IterM, CanonT, CanonU. Each is under no condition but those that it states. -/
import Derived.Test.YtolhikjjchfnjaaGreatDoorBa24
import Derived.Test.YtolhikjjchfnjaaGreatDoorBa14
import Derived.OwnWalk
/- canon: Clash. -/
namespace Go.Proofs.YtolhikjjchfnjaaGreatDoor
section
open Go Go.RowKit
set_option linter.unusedSimpArgs false
set_option linter.unusedVariables false
theorem firsts_head (x : ByteArray) (r : List ByteArray) : (firsts (x :: r))[0]? = some x := by
  unfold firsts
  rw [List.foldl_cons]
  have h : ∀ (r acc : List ByteArray), acc[0]? = some x → (r.foldl addF acc)[0]? = some x := by
    intro r
    induction r with
    | nil => intro acc h; exact h
    | cons y r ih =>
      intro acc h
      rw [List.foldl_cons]
      refine ih _ ?_
      unfold addF
      split
      · exact h
      · rw [List.getElem?_append_left (List.getElem?_eq_some_iff.1 h).1]; exact h
  exact h r _ (by simp [addF, memB])
theorem flatT_head (T : PT) : (firsts (flatT T))[0]? = some T.text := by
  obtain ⟨t, ks⟩ := T
  unfold flatT
  exact firsts_head t _
/-- Do two texts hash alike, and are they not alike? -/
def collB (x y : ByteArray) : Bool := decide (x ≠ y) && decide (shaB x = shaB y)
def clashIn (ys : List ByteArray) (x : ByteArray) : Option (ByteArray × ByteArray) := (ys.find? (collB x)).map fun y => (x, y)
def clash2 (xs ys : List ByteArray) : Option (ByteArray × ByteArray) := xs.findSome? (clashIn ys)
theorem clash2_at {xs ys : List ByteArray} {i : Nat} {x : ByteArray} {r : ByteArray × ByteArray} (hx : xs[i]? = some x) (h0 : (xs.take i).findSome? (clashIn ys) = none) (h : clashIn ys x = some r) : clash2 xs ys = some r := by
  unfold clash2
  have hs : xs = xs.take i ++ xs.drop i := (List.take_append_drop i xs).symm
  have hd : xs.drop i = x :: xs.drop (i + 1) := by
    obtain ⟨hlt, e⟩ := List.getElem?_eq_some_iff.1 hx
    rw [← e]; exact List.drop_eq_getElem_cons hlt
  rw [hs, List.findSome?_append, h0, hd, List.findSome?_cons, h]; rfl
theorem clash2_step {xs ys : List ByteArray} {i : Nat} {x : ByteArray} (hx : xs[i]? = some x) (h0 : (xs.take i).findSome? (clashIn ys) = none) (h : ys.find? (collB x) = none) : (xs.take (i + 1)).findSome? (clashIn ys) = none := by
  rw [List.take_add_one, hx, List.findSome?_append, h0]
  simp [clashIn, h]
theorem find_at {ys : List ByteArray} {p : ByteArray → Bool} {j : Nat} {y : ByteArray} (hy : ys[j]? = some y) (h0 : (ys.take j).find? p = none) (h : p y = true) : ys.find? p = some y := by
  have hs : ys = ys.take j ++ ys.drop j := (List.take_append_drop j ys).symm
  have hd : ys.drop j = y :: ys.drop (j + 1) := by
    obtain ⟨hlt, e⟩ := List.getElem?_eq_some_iff.1 hy
    rw [← e]; exact List.drop_eq_getElem_cons hlt
  rw [hs, List.find?_append, h0, hd, List.find?_cons, h]; rfl
theorem find_step {ys : List ByteArray} {p : ByteArray → Bool} {j : Nat} {y : ByteArray} (hy : ys[j]? = some y) (h0 : (ys.take j).find? p = none) (h : p y = false) : (ys.take (j + 1)).find? p = none := by
  rw [List.take_add_one, hy, List.find?_append, h0]
  simp [h]
def clashV : Option (ByteArray × ByteArray) → Value
  | some (x, y) => .tuple #[.string x, .string y, .bool true]
  | none => .tuple #[.string ⟨#[]⟩, .string ⟨#[]⟩, .bool false]
/-- What Clash answers of two maps. -/
def clashN (l m : List Pair) : Option (ByteArray × ByteArray) :=
  if checkN l ≠ 0 ∨ checkN m ≠ 0 ∨ sameL l m = true ∨ shaB (trieT l).text ≠ shaB (trieT m).text then none
  else clash2 (firsts (flatT (trieT l))) (firsts (flatT (trieT m)))
theorem Tryz.enterEqual : ∀ args w, (callFunc 55 args).run Tryz.prog w = .ok (.enter 55 args) w := fun _ _ => by kernel_rfl
theorem Tryz.enterShaOf : ∀ args w, (callFunc 34 args).run Tryz.prog w = .ok (.enter 34 args) w := fun _ _ => by kernel_rfl
theorem nbeq_sha (x y : ByteArray) : (x.toList == y.toList) = decide (x = y) := by
  by_cases h : x = y
  · simp [h]
  · have h3 : ¬ x.toList = y.toList := fun h2 => h (toList_inj h2)
    simp only [h, decide_false]; exact beq_eq_false_iff_ne.2 h3
/-- The first map is none. -/
theorem clash_bad1 (w : World) (v u : Value) (l m : List Pair) (hv : RdP w v l) (hn : l.length ≤ 9223372036854775807) (hs : ∀ p ∈ l, p.1.size ≤ 9223372036854775807 ∧ p.2.size ≤ 9223372036854775807) (h : checkN l ≠ 0) : Calls Tryz.prog 31 #[v, u] w fun e w' => e = .returned (clashV none) ∧ Ext w w' := by
  have hck := nodes_bad w v l hv hn hs h
  obtain ⟨a, c, hsl⟩ := hv.sl
  subst hsl
  obtain ⟨x, hx⟩ : ∃ x, x = checkN l := ⟨_, rfl⟩
  rw [← hx] at h hck
  have hne : (x == 0) = false := by simpa using h
  have HT := Lib.hid hck
  clear hck hv hx hs
  go_enter Tryz.func31, Tryz.ntmps31
  go_wp2_with fail
  refine HT.out.mono ?_
  rintro e w1 ⟨rfl, hE⟩
  have HE := Lib.hid hE
  clear hE
  go_wp2_with fail
  go_ret3
  exact ⟨rfl, HE.out⟩
set_option maxRecDepth 100000 in
set_option maxHeartbeats 4000000 in
/-- The second map is none. -/
theorem clash_bad2 (w : World) (v u : Value) (l m : List Pair) (hc : Cubes w) (hv : RdP w v l) (hu : RdP w u m) (hn : m.length ≤ 9223372036854775807) (hs : ∀ p ∈ m, p.1.size ≤ 9223372036854775807 ∧ p.2.size ≤ 9223372036854775807) (h1 : checkN l = 0) (h : checkN m ≠ 0) : Calls Tryz.prog 31 #[v, u] w fun e w' => e = .returned (clashV none) ∧ Ext w w' := by
  have HN := Lib.hid (nodes_ok w v l hc hv h1)
  have HB := Lib.hid (fun w1 (h1 : Ext w w1) => nodes_bad w1 u m (hu.ext h1) hn hs h)
  obtain ⟨a, c, hsl⟩ := hv.sl
  subst hsl
  obtain ⟨a', c', hsl'⟩ := hu.sl
  subst hsl'
  obtain ⟨x, hx⟩ : ∃ x, x = checkN m := ⟨_, rfl⟩
  rw [← hx] at h HB
  have hne : (x == 0) = false := by simpa using h
  have hne2 : (x != 0) = true := by simpa using h
  clear hv hu hx hs hc h1
  go_enter Tryz.func31, Tryz.ntmps31
  go_wp2_with fail
  refine HN.out.mono ?_
  rintro e w1 ⟨q, n, rfl, hR⟩
  obtain ⟨a2, c2, rfl⟩ := hR.sl
  have HE := Lib.hid hR.ext
  clear hR HN
  go_wp2_with fail
  refine (HB.out w1 HE.out).mono ?_
  rintro e w2 ⟨rfl, hE⟩
  have HE2 := Lib.hid (HE.out.trans hE)
  clear hE HE HB
  go_wp2_with fail
  refine wp_region_mixK [0,1,2,3,4,5,6,7,8,9,10,11,12,13,14,15,16,17,18,19] Ext ExtR ExtT (by kernel_rfl) (by kernel_rfl) (by kernel_rfl) ?_
  iterate 3 (refine mixk_pure _ rfl (by kernel_rfl) rfl rfl (fun K hK => ?_); go_big_quiet_op; refine hK _ ?_; clear hK K)
  iterate 3 (refine mixk_skip _ rfl (by kernel_rfl) rfl ?_; simp only [Act.put, List.setIfInBounds_toArray, List.set_cons_zero, List.set_cons_succ])
  iterate 2 (refine mixk_pure _ rfl (by kernel_rfl) rfl rfl (fun K hK => ?_); go_big_quiet_op; refine hK _ ?_; clear hK K)
  iterate 11 (refine mixk_skip _ rfl (by kernel_rfl) rfl ?_; simp only [Act.put, List.setIfInBounds_toArray, List.set_cons_zero, List.set_cons_succ])
  iterate 1 (refine mixk_pure _ rfl (by kernel_rfl) rfl rfl (fun K hK => ?_); go_big_quiet_op; refine hK _ ?_; clear hK K)
  refine mixk_end (by kernel_rfl) (fun w3 he => ?_)
  have HE3 := Lib.hid ((HE2.out.trans (drewE w2)).trans he)
  clear he
  go_wp2_with fail
  go_ret3
  exact ⟨rfl, HE3.out⟩
set_option maxRecDepth 100000 in
set_option maxHeartbeats 4000000 in
/-- The maps are alike. -/
theorem clash_same (w : World) (v u : Value) (l m : List Pair) (hc : Cubes w) (hv : RdP w v l) (hu : RdP w u m) (h1 : checkN l = 0) (h2 : checkN m = 0) (hs : sameL l m = true) : Calls Tryz.prog 31 #[v, u] w fun e w' => e = .returned (clashV none) ∧ Ext w w' := by
  have HN := Lib.hid (nodes_ok w v l hc hv h1)
  have HB := Lib.hid (fun w1 (h1 : Ext w w1) => nodes_ok w1 u m (hc.ext h1) (hu.ext h1) h2)
  have HQ := Lib.hid (fun w1 (hx : Ext w w1) => equal_c w1 v u l m (hv.ext hx) (hu.ext hx) (Nat.le_trans (check_ok h1).len (by decide)) (Nat.le_trans (check_ok h2).len (by decide)))
  rw [hs] at HQ
  obtain ⟨a, c, hsl⟩ := hv.sl
  subst hsl
  obtain ⟨a', c', hsl'⟩ := hu.sl
  subst hsl'
  clear hv hu hc h1 h2 hs
  go_enter Tryz.func31, Tryz.ntmps31
  go_wp2_with fail
  refine HN.out.mono ?_
  rintro e w1 ⟨q, n, rfl, hR⟩
  obtain ⟨a2, c2, rfl⟩ := hR.sl
  have HE := Lib.hid hR.ext
  clear hR HN
  go_wp2_with fail
  refine (HB.out w1 HE.out).mono ?_
  rintro e w2 ⟨q, n2, rfl, hR⟩
  obtain ⟨a3, c3, rfl⟩ := hR.sl
  have HE2 := Lib.hid (HE.out.trans hR.ext)
  clear hR HE HB
  go_wp2_with fail
  refine wp_region_mixK [0,1,2,3,4,5,6,7,8,9,10,11,12,13,14,15,16,17,18,19] Ext ExtR ExtT (by kernel_rfl) (by kernel_rfl) (by kernel_rfl) ?_
  iterate 5 (refine mixk_pure _ rfl (by kernel_rfl) rfl rfl (fun K hK => ?_); go_big_quiet_op; refine hK _ ?_; clear hK K)
  refine mixk_call _ 55 _ (.bool true) rfl (by kernel_rfl) rfl (fun w1 => exec_call Tryz.enterEqual (by kernel_rfl)) (fun w3 h3 => HQ.out w3 ((HE2.out.trans (drewE w2)).trans h3)) ?_
  simp only [Act.put, List.setIfInBounds_toArray, List.set_cons_zero, List.set_cons_succ]
  iterate 2 (refine mixk_pure _ rfl (by kernel_rfl) rfl rfl (fun K hK => ?_); go_big_quiet_op; refine hK _ ?_; clear hK K)
  iterate 11 (refine mixk_skip _ rfl (by kernel_rfl) rfl ?_; simp only [Act.put, List.setIfInBounds_toArray, List.set_cons_zero, List.set_cons_succ])
  iterate 1 (refine mixk_pure _ rfl (by kernel_rfl) rfl rfl (fun K hK => ?_); go_big_quiet_op; refine hK _ ?_; clear hK K)
  refine mixk_end (by kernel_rfl) (fun w3 he => ?_)
  have HE3 := Lib.hid ((HE2.out.trans (drewE w2)).trans he)
  clear he
  go_wp2_with fail
  go_ret3
  exact ⟨rfl, HE3.out⟩
end
end Go.Proofs.YtolhikjjchfnjaaGreatDoor
/- canon: Clash of two maps. -/
namespace Go.Proofs.YtolhikjjchfnjaaGreatDoor
section
open Go Go.RowKit
set_option linter.unusedSimpArgs false
set_option linter.unusedVariables false
def ClRel (w w5 : World) (xs ys : List ByteArray) (v : Value) (wr : World) : Prop := ∃ i : Nat, i ≤ xs.length ∧ v = .int .i64 i ∧ Ext w wr ∧ Ext w5 wr ∧ (xs.take i).findSome? (clashIn ys) = none
def ClRel2 (w w5 : World) (x : ByteArray) (ys : List ByteArray) (v : Value) (wr : World) : Prop := ∃ j : Nat, j ≤ ys.length ∧ v = .int .i64 j ∧ Ext w wr ∧ Ext w5 wr ∧ (ys.take j).find? (collB x) = none
set_option maxRecDepth 100000 in
set_option maxHeartbeats 8000000 in
theorem clash_two (w : World) (v u : Value) (l m : List Pair) (hc : Cubes w) (hv : RdP w v l) (hu : RdP w u m) (h1 : checkN l = 0) (h2 : checkN m = 0) (hs : sameL l m = false) : Calls Tryz.prog 31 #[v, u] w fun e w' => e = .returned (clashV (clashN l m)) ∧ Ext w w' := by
  have HN := Lib.hid (nodes_ok w v l hc hv h1)
  have HB := Lib.hid (fun w1 (h1 : Ext w w1) => nodes_ok w1 u m (hc.ext h1) (hu.ext h1) h2)
  have HQ := Lib.hid (fun w1 (hx : Ext w w1) => equal_c w1 v u l m (hv.ext hx) (hu.ext hx) (Nat.le_trans (check_ok h1).len (by decide)) (Nat.le_trans (check_ok h2).len (by decide)))
  rw [hs] at HQ
  have HC := Lib.hid hc
  obtain ⟨t1, ht1⟩ : ∃ t, t = (trieT l).text := ⟨_, rfl⟩
  obtain ⟨t2, ht2⟩ : ∃ t, t = (trieT m).text := ⟨_, rfl⟩
  obtain ⟨xs, hxs⟩ : ∃ xs, xs = firsts (flatT (trieT l)) := ⟨_, rfl⟩
  obtain ⟨ys, hys⟩ : ∃ ys, ys = firsts (flatT (trieT m)) := ⟨_, rfl⟩
  have hx0 : xs[0]? = some t1 := by rw [hxs, ht1]; exact flatT_head _
  have hy0 : ys[0]? = some t2 := by rw [hys, ht2]; exact flatT_head _
  have hlx : xs.length ≤ 1000000 := by
    rw [hxs]; have a := firsts_len (flatT (trieT l)); have b := trie_len (check_ok h1); have c := (check_ok h1).len; omega
  have hly : ys.length ≤ 1000000 := by
    rw [hys]; have a := firsts_len (flatT (trieT m)); have b := trie_len (check_ok h2); have c := (check_ok h2).len; omega
  have hcl : clashN l m = if shaB t1 = shaB t2 then clash2 xs ys else none := by
    unfold clashN
    rw [← ht1, ← ht2, ← hxs, ← hys, h1, h2, hs]
    by_cases h : shaB t1 = shaB t2 <;> simp [h]
  rw [← hxs] at HN
  rw [← hys] at HB
  rw [hcl]
  have HX0 := Lib.hid hx0
  have HY0 := Lib.hid hy0
  have px : (0 : Int) < (xs.length : Int) := by have := (List.getElem?_eq_some_iff.1 hx0).1; omega
  have py : (0 : Int) < (ys.length : Int) := by have := (List.getElem?_eq_some_iff.1 hy0).1; omega
  obtain ⟨a, c, hsl⟩ := hv.sl
  subst hsl
  obtain ⟨a', c', hsl'⟩ := hu.sl
  subst hsl'
  clear hv hu hc h1 h2 hs ht1 ht2 hxs hys hx0 hy0 hcl
  obtain ⟨R, hR0⟩ : ∃ R, R = clashV (if shaB t1 = shaB t2 then clash2 xs ys else none) := ⟨_, rfl⟩
  rw [← hR0]
  have HR0 := Lib.hid hR0
  clear hR0
  go_enter Tryz.func31, Tryz.ntmps31
  go_wp2_with fail
  refine HN.out.mono ?_
  rintro e w1 ⟨q, n, rfl, hR⟩
  have hrd := hR.rd
  have HE := Lib.hid hR.ext
  clear hR HN
  have hsl := hrd
  obtain ⟨a2, c2, rfl, hcl2⟩ := hsl.slice
  have HRX := Lib.hid hrd
  clear hsl hrd hcl2
  go_wp2_with fail
  refine (HB.out w1 HE.out).mono ?_
  rintro e w2 ⟨q, n2, rfl, hR⟩
  have hrd := hR.rd
  have HE2 := Lib.hid (HE.out.trans hR.ext)
  have HRX2 := Lib.hid (HRX.out.ext hR.ext)
  clear hR HE HB HRX
  have hsl := hrd
  obtain ⟨a3, c3, rfl, hcl2⟩ := hsl.slice
  have HRY := Lib.hid hrd
  clear hsl hrd hcl2
  obtain ⟨a4, c4, hh, hcx⟩ := HRX2.out.slice
  obtain ⟨bx, ox, hax, hcx0⟩ := hcx 0 t1 HX0.out
  obtain ⟨e1, _, _⟩ := Value.slice.inj hh
  obtain ⟨a5, c5, hh2, hcy⟩ := HRY.out.slice
  obtain ⟨by', oy, hay, hcy0⟩ := hcy 0 t2 HY0.out
  obtain ⟨e2, _, _⟩ := Value.slice.inj hh2
  rw [hax] at e1
  rw [hay] at e2
  subst e1
  subst e2
  have HCX := Lib.hid hcx0
  have HCY := Lib.hid hcy0
  clear hh hh2 hcx hcy hcx0 hcy0 hax hay
  go_wp2_with fail
  refine wp_region_mixF 5 [0,1,2,3,4,5,6,7,8,9,10,13,14,15] Ext ExtR ExtT (by kernel_rfl) (by kernel_rfl) (by kernel_rfl) ?_
  iterate 5 (refine mixj_pure _ rfl (by kernel_rfl) rfl rfl (fun K hK => ?_); go_big_quiet_op; refine hK _ ?_; clear hK K)
  refine mixj_call _ 55 _ (.bool false) rfl (by kernel_rfl) rfl (fun w1 => exec_call Tryz.enterEqual (by kernel_rfl)) (fun w3 h3 => HQ.out w3 ((HE2.out.trans (drewE w2)).trans h3)) ?_
  simp only [Act.put, List.setIfInBounds_toArray, List.set_cons_zero, List.set_cons_succ]
  iterate 4 (refine mixj_pure _ rfl (by kernel_rfl) rfl rfl (fun K hK => ?_); go_big_quiet_op; refine hK _ ?_; clear hK K)
  refine mixj_load ⟨bx, ox, none⟩ (.string t1) rfl (by kernel_rfl) rfl rfl (fun w3 h3 => run_load_plain Tryz.uStr rfl (cell_ext (by exact HCX.out) ((drewE w2).trans h3))) ?_
  simp only [Act.put, List.setIfInBounds_toArray, List.set_cons_zero, List.set_cons_succ]
  iterate 2 (refine mixj_pure _ rfl (by kernel_rfl) rfl rfl (fun K hK => ?_); go_big_quiet_op; refine hK _ ?_; clear hK K)
  refine mixj_load ⟨by', oy, none⟩ (.string t2) rfl (by kernel_rfl) rfl rfl (fun w3 h3 => run_load_plain Tryz.uStr rfl (cell_ext (by exact HCY.out) ((drewE w2).trans h3))) ?_
  simp only [Act.put, List.setIfInBounds_toArray, List.set_cons_zero, List.set_cons_succ]
  refine mixj_end ?_
  refine fork_two (j := 11) (k := 16) _ _ [12,16,17,18,19] [11,12,17,18,19] (by kernel_rfl) rfl rfl rfl rfl rfl rfl (fun w3 h3 K hK => ?f1) (fun w3 h3 K hK => ?f2)
  case' f1 =>
    have HE3 := Lib.hid ((HE2.out.trans (drewE w2)).trans h3)
    have HY3 := Lib.hid (HRY.out.ext ((drewE w2).trans h3))
    have HX3 := Lib.hid (HRX2.out.ext ((drewE w2).trans h3))
    have HS1 := Lib.hid (rds_lit w3 [t1] 9)
    clear h3 HE2 HRY HRX2 HCX HCY HQ
    go_simp
    refine hK _ _ ((ExtR w3).alloc _) ?_
    clear hK K
    refine mixk_call _ 34 _ (.string (shaB (catB [t1]))) rfl (by kernel_rfl) rfl (fun w1 => exec_call Tryz.enterShaOf (by kernel_rfl)) (fun w4 h4 => of_t w4 _ [t1] (by simp) (HS1.out.ext (by exact h4)) (HC.out.ext ((HE3.out.trans ((ExtR w3).alloc _)).trans h4))) ?_
    simp only [Act.put, List.setIfInBounds_toArray, List.set_cons_zero, List.set_cons_succ]
    refine mixk_hard _ rfl (by kernel_rfl) rfl (fun w4 h4 K hK => ?_)
    have HE4 := Lib.hid ((HE3.out.trans ((ExtR w3).alloc _)).trans h4)
    have HY4 := Lib.hid (HY3.out.ext (((ExtR w3).alloc _).trans h4))
    have HX4 := Lib.hid (HX3.out.ext (((ExtR w3).alloc _).trans h4))
    have HS2 := Lib.hid (rds_lit w4 [t2] 9)
    clear h4 HE3 HY3 HX3 HS1
    go_simp
    refine hK _ _ ((ExtR w4).alloc _) ?_
    clear hK K
    refine mixk_call _ 34 _ (.string (shaB (catB [t2]))) rfl (by kernel_rfl) rfl (fun w1 => exec_call Tryz.enterShaOf (by kernel_rfl)) (fun w5 h5 => of_t w5 _ [t2] (by simp) (HS2.out.ext (by exact h5)) (HC.out.ext ((HE4.out.trans ((ExtR w4).alloc _)).trans h5))) ?_
    simp only [Act.put, List.setIfInBounds_toArray, List.set_cons_zero, List.set_cons_succ]
  case' f2 =>
    have HE3 := Lib.hid ((HE2.out.trans (drewE w2)).trans h3)
    have HY3 := Lib.hid (HRY.out.ext ((drewE w2).trans h3))
    have HX3 := Lib.hid (HRX2.out.ext ((drewE w2).trans h3))
    have HS2 := Lib.hid (rds_lit w3 [t2] 9)
    clear h3 HE2 HRY HRX2 HCX HCY HQ
    go_simp
    refine hK _ _ ((ExtR w3).alloc _) ?_
    clear hK K
    refine mixk_hard _ rfl (by kernel_rfl) rfl (fun w4 h4 K hK => ?_)
    have HE4 := Lib.hid ((HE3.out.trans ((ExtR w3).alloc _)).trans h4)
    have HY4 := Lib.hid (HY3.out.ext (((ExtR w3).alloc _).trans h4))
    have HX4 := Lib.hid (HX3.out.ext (((ExtR w3).alloc _).trans h4))
    have HS2' := Lib.hid (HS2.out.ext (by exact h4))
    have HS1 := Lib.hid (rds_lit w4 [t1] 9)
    clear h4 HE3 HY3 HX3 HS2
    go_simp
    refine hK _ _ ((ExtR w4).alloc _) ?_
    clear hK K
    refine mixk_call _ 34 _ (.string (shaB (catB [t1]))) rfl (by kernel_rfl) rfl (fun w1 => exec_call Tryz.enterShaOf (by kernel_rfl)) (fun w5 h5 => of_t w5 _ [t1] (by simp) (HS1.out.ext (by exact h5)) (HC.out.ext ((HE4.out.trans ((ExtR w4).alloc _)).trans h5))) ?_
    simp only [Act.put, List.setIfInBounds_toArray, List.set_cons_zero, List.set_cons_succ]
    refine mixk_call _ 34 _ (.string (shaB (catB [t2]))) rfl (by kernel_rfl) rfl (fun w1 => exec_call Tryz.enterShaOf (by kernel_rfl)) (fun w5 h5 => of_t w5 _ [t2] (by simp) (HS2'.out.ext (((ExtR w4).alloc _).trans (by exact h5))) (HC.out.ext ((HE4.out.trans ((ExtR w4).alloc _)).trans h5))) ?_
    simp only [Act.put, List.setIfInBounds_toArray, List.set_cons_zero, List.set_cons_succ]
    clear HS2'
  all_goals
    rw [catB_one, catB_one]
    have hnb : (shaB t1 == shaB t2) = decide (shaB t1 = shaB t2) := ba_beq _ _
    have hnq := nbeq_sha (shaB t1) (shaB t2)
    by_cases hsh : shaB t1 = shaB t2
    · rw [if_pos hsh] at HR0
      simp only [decide_eq_true hsh] at hnq
      have HSH := Lib.hid hsh
      clear hsh
      iterate 2 (refine mixk_pure _ rfl (by kernel_rfl) rfl rfl (fun K hK => ?_); go_big_quiet_op; refine hK _ ?_; clear hK K)
      refine mixk_end (by kernel_rfl) (fun w5 he => ?_)
      have HE5 := Lib.hid ((HE4.out.trans ((ExtR _).alloc _)).trans he)
      have HY5 := Lib.hid (HY4.out.ext (((ExtR _).alloc _).trans he))
      have HX5 := Lib.hid (HX4.out.ext (((ExtR _).alloc _).trans he))
      clear he HE4 HY4 HX4 hnb
      go_wp2_with fail
      go_loopw [48] (fun i wr => ClRel w w5 xs ys i wr) (fun i _ => xs.length - (intOf i).toNat)
      case atStart => exact ⟨0, by omega, rfl, HE5.out, ExtR _, by simp⟩
      case round =>
        obtain ⟨i, hi, rfl, hE, hE5, hall⟩ := hrel
        have HE := Lib.hid hE
        have HALL := Lib.hid hall
        have HRXr := Lib.hid (RdS.ext HX5.out (show Ext w5 wr from hE5))
        clear hE hall
        by_cases hlt : i < xs.length
        · obtain ⟨x, hx⟩ : ∃ x, xs[i]? = some x := ⟨_, List.getElem?_eq_getElem hlt⟩
          obtain ⟨a6, c6, hh, hcx⟩ := HX5.out.slice
          obtain ⟨bx', ox', hax, hcx0⟩ := hcx i x hx
          obtain ⟨e1, _, _⟩ := Value.slice.inj hh
          rw [hax] at e1
          obtain ⟨rfl, rfl⟩ : bx' = bx ∧ ox' = ox := by
            have := Option.some.inj e1; injection this with h1 h2 h3; exact ⟨h1.symm, h2.symm⟩
          have hq := cell_ext hcx0 hE5
          have HXI := Lib.hid hx
          have HE5' := Lib.hid hE5
          have b1 : (i : Int) < (xs.length : Int) := by omega
          clear hh hcx hcx0 hax e1 hx hE5
          go_wp2_with fail
          clear hq
          go_loopw [54] (fun j wr => ClRel2 w w5 x ys j wr) (fun j _ => ys.length - (intOf j).toNat)
          case atStart => exact ⟨0, by omega, rfl, HE.out, HE5'.out, by simp⟩
          case round =>
            obtain ⟨j, hj, rfl, hF, hF5, hall2⟩ := hrel
            have HF := Lib.hid hF
            have HALL2 := Lib.hid hall2
            clear hF hall2
            by_cases hlt2 : j < ys.length
            · obtain ⟨y, hy⟩ : ∃ y, ys[j]? = some y := ⟨_, List.getElem?_eq_getElem hlt2⟩
              obtain ⟨a6, c6, hh, hcx⟩ := HY5.out.slice
              obtain ⟨by2, oy2, hax, hcx0⟩ := hcx j y hy
              obtain ⟨e1, _, _⟩ := Value.slice.inj hh
              rw [hax] at e1
              obtain ⟨rfl, rfl⟩ : by2 = by' ∧ oy2 = oy := by
                have := Option.some.inj e1; injection this with h1 h2 h3; exact ⟨h1.symm, h2.symm⟩
              have hq := cell_ext hcx0 hF5
              have HYJ := Lib.hid hy
              have HF5 := Lib.hid hF5
              have b2 : (j : Int) < (ys.length : Int) := by omega
              clear hh hcx hcx0 hax e1 hy hF5
              go_wp2_with fail
              clear hq
              refine (collide_t _ x y (HC.out.ext HF.out)).mono ?_
              rintro e w7 ⟨rfl, hE7⟩
              have HE7 := Lib.hid (HF.out.trans hE7)
              have HG7 := Lib.hid (HF5.out.trans hE7)
              clear hE7
              obtain ⟨cb, hcb⟩ : ∃ cb, cb = collB x y := ⟨_, rfl⟩
              rw [show (decide (x ≠ y) && decide (shaB x = shaB y)) = cb from hcb.symm]
              have HCB := Lib.hid hcb
              clear hcb
              cases cb with
              | true =>
                have HFND := Lib.hid (show R = clashV (some (x, y)) by
                  rw [HR0.out, clash2_at HXI.out HALL.out (r := (x, y)) (by unfold clashIn; rw [find_at HYJ.out HALL2.out HCB.out.symm]; rfl)])
                go_wp2_with fail
                go_ret3
                exact ⟨by rw [HFND.out]; rfl, HE7.out⟩
              | false =>
                have HST := Lib.hid (find_step HYJ.out HALL2.out HCB.out.symm)
                go_wp2_with fail
                go_roundw
                case rel => exact ⟨j + 1, by omega, by go_num, HE7.out, HG7.out, HST.out⟩
                case measure => simp [intOf]; omega
            · have hjn : j = ys.length := by omega
              have HST := Lib.hid (show (xs.take (i + 1)).findSome? (clashIn ys) = none from clash2_step HXI.out HALL.out (by have h := HALL2.out; rwa [hjn, List.take_length] at h))
              have HF5 := Lib.hid hF5
              clear hjn hF5
              go_wp2_with fail
              go_roundw
              case rel => exact ⟨i + 1, by omega, by go_num, HF.out, HF5.out, HST.out⟩
              case measure => simp [intOf]; omega
        · have hin : i = xs.length := by omega
          have HF := Lib.hid (show R = clashV none by
            rw [HR0.out]
            have h := HALL.out
            rw [hin, List.take_length] at h
            unfold clash2; rw [h])
          clear hin
          go_wp2_with fail
          go_ret3
          exact ⟨by rw [HF.out]; rfl, HE.out⟩
    · rw [if_neg hsh] at HR0
      simp only [hsh, decide_false] at hnq
      clear hsh
      iterate 2 (refine mixk_pure _ rfl (by kernel_rfl) rfl rfl (fun K hK => ?_); go_big_quiet_op; refine hK _ ?_; clear hK K)
      refine mixk_end (by kernel_rfl) (fun w5 he => ?_)
      have HE5 := Lib.hid ((HE4.out.trans ((ExtR _).alloc _)).trans he)
      clear he HE4 HY4 HX4
      go_wp2_with fail
      go_ret3
      exact ⟨by rw [HR0.out]; rfl, HE5.out⟩
theorem clash_c (w : World) (v u : Value) (l m : List Pair) (hc : Cubes w) (hv : RdP w v l) (hu : RdP w u m) (hn1 : l.length ≤ 9223372036854775807) (hn2 : m.length ≤ 9223372036854775807) (hs1 : ∀ p ∈ l, p.1.size ≤ 9223372036854775807 ∧ p.2.size ≤ 9223372036854775807) (hs2 : ∀ p ∈ m, p.1.size ≤ 9223372036854775807 ∧ p.2.size ≤ 9223372036854775807) :
    Calls Tryz.prog 31 #[v, u] w fun e w' => e = .returned (clashV (clashN l m)) ∧ Ext w w' := by
  by_cases h1 : checkN l = 0
  · by_cases h2 : checkN m = 0
    · cases hs : sameL l m with
      | true =>
        have : clashN l m = none := by unfold clashN; simp [hs]
        rw [this]; exact clash_same w v u l m hc hv hu h1 h2 hs
      | false => exact clash_two w v u l m hc hv hu h1 h2 hs
    · have : clashN l m = none := by unfold clashN; rw [if_pos (.inr (.inl h2))]
      rw [this]; exact clash_bad2 w v u l m hc hv hu hn2 hs2 h1 h2
  · have : clashN l m = none := by unfold clashN; rw [if_pos (.inl h1)]
    rw [this]; exact clash_bad1 w v u l m hv hn1 hs1 h1
end
end Go.Proofs.YtolhikjjchfnjaaGreatDoor
/- A range over a function that hands what it has in an order of no one's choosing, and owns one block (a map's iterator): its contract, the caller's law. Over any program. -/
namespace Go.Proofs.YtolhikjjchfnjaaGreatDoor
section
open Go Go.RowKit
set_option linter.unusedSimpArgs false
set_option linter.unusedVariables false

/-- A round that goes on: it keeps the block r. -/
def YieldM (P : Program) (l : Nat) (args : Array Value) (W : World) (r : Nat) (Ct : World → Prop) : Prop :=
  YieldAt Fence.wide 0 P l args W fun e W' => e = .returned (.bool true) ∧ Keeps (fun b => b ≠ r) W W' ∧ Ct W'

/-- The iterator's contract: from s0 on, by steps, to where it is done; S: what it rests on; the first block that it makes is its own. -/
def IterM (P : Program) (gf : FuncId) (lb : Array Value) {σ : Type} (s0 : σ) (Step : σ → Array Value → σ → Prop) (Done : σ → Prop) (S : World → Prop) : Prop :=
  ∀ (l : Nat) (C : σ → World → Prop) (W : World), (∀ s W1 W2, C s W1 → Keeps (fun b => b = W.heap.size) W1 W2 → C s W2) → (∀ s W1, C s W1 → S W1) →
    (∀ s v s' W1, Step s v s' → C s W1 → W.heap.size < W1.heap.size → YieldM P l v W1 W.heap.size (C s')) → C s0 W →
      CallsIn Fence.wide 0 P gf (#[.func (.yield l) #[] #[]] ++ lb) W (fun e W' => (∃ v, e = .returned v) ∧ ∃ s, Done s ∧ C s W')

/-- What is asked where a round's body is left: the blocks of book-keeping, and the iterator's, stay. -/
def RoundM (g : Nat) (W : World) (Ct : World → Prop) : Exit → Act → World → Prop
  | .normal, _, W' => Keeps (fun b => b ≠ g ∧ b ≠ g + 1 ∧ b ≠ g + 2) W W' ∧ Ct W'
  | _, _, _ => False

set_option maxHeartbeats 1000000 in
/-- THE LAW. g = w.heap.size, g + 1: the blocks of book-keeping; g + 2: the iterator's. -/
theorem wp_rangeM {P : Program} {g : Operand} {ps : Array Tmp} {assign body : Code} {Q : Exit → Act → World → Prop} {a : Act} {w : World}
    {gf : Nat} {lb : Array Value} (hg : a.eval g = .func (.func gf) #[] lb) (eg : ∀ args w, (callFunc gf args).run P w = .ok (.enter gf args) w)
    {σ : Type} {s0 : σ} {Step : σ → Array Value → σ → Prop} {Done : σ → Prop} {S : World → Prop} (IS : IterM P gf lb s0 Step Done S)
    (hps : ∀ s v s', Step s v s' → v.size = ps.size)
    (C : σ → World → Prop) (hC : ∀ s W W', C s W → Keeps (fun b => b = w.heap.size ∨ b = w.heap.size + 1 ∨ b = w.heap.size + 2) W W' → C s W') (hS : ∀ s W, C s W → S W)
    (h0 : C s0 w) (a₁ : Array Value → Act)
    (hassign : ∀ (l : Nat) (v : Array Value) (s s' : σ) (W : World) (K : Act → World → Prop), Step s v s' → K (a₁ v) W →
      assign.wpIn (Fence.wide.inRound l) 0 P (Exit.then K (fun _ _ _ => False)) { tmps := (ps.zip v).foldl (fun t (p, v) => t.setIfInBounds p v) a.tmps, defers := [] } W)
    (hbody : ∀ (l : Nat) (v : Array Value) (s s' : σ) (W : World), Step s v s' → C s W → w.heap.size + 2 < W.heap.size → body.wpIn (Fence.wide.inRound l) 0 P (RoundM w.heap.size W (C s')) (a₁ v) W)
    (hdone : ∀ (s : σ) (W : World), Done s → C s W → Blk W w.heap.size (.deferred (some [])) → Q .normal { a with defers := { target := .collected w.heap.size, args := #[] } :: a.defers } W) :
    (Code.rangeFunc g ps assign body).wpIn Fence.wide 0 P Q a w := by
  refine wpIn_rangeFunc ?_
  intro fn _
  show ∃ l mark w₁ d w₁' f args w₂, (Instr.enterLoop fn a.tmps ps assign body none).run P w = _ ∧ _
  obtain ⟨rec, hrec⟩ : ∃ rec : LoopState → Option Code → Loop, rec = fun st pe => { state := st, pending := pe, fn, tmps := a.tmps, params := ps, assign, body, defers := w.heap.size } := ⟨_, rfl⟩
  obtain ⟨W1, hW1⟩ : ∃ W1, (w.alloc (.deferred (some []))).alloc (.loop (rec .ready none)) = W1 := ⟨_, rfl⟩
  have hL1 : Blk W1 (w.heap.size + 1) (.loop (rec .ready none)) := by
    rw [← hW1]; have := Blk.new (w.alloc (.deferred (some []))) (.loop (rec .ready none)); rwa [World.size_alloc] at this
  have hK1 : Blk W1 w.heap.size (.deferred (some [])) := by
    rw [← hW1]; exact (Blk.new w _).alloc _
  have hX1 : Ext w W1 := by rw [← hW1]; exact ((Keeps.refl _ w).alloc _).alloc _
  have hs1 : W1.heap.size = w.heap.size + 2 := by rw [← hW1]; simp
  refine ⟨w.heap.size + 1, [{ target := .collected w.heap.size, args := #[] }], W1, { target := .fn (.func gf) lb, args := #[.func (.yield (w.heap.size + 1)) #[] #[]] }, W1, gf,
    #[.func (.yield (w.heap.size + 1)) #[] #[]] ++ lb, W1, ?_, ?_, ?_, ?_, fun h => by simp [Fence.wide] at h, ?_⟩
  · rw [← hW1, hrec]; exact run_enterLoop_outer _ _ _ _ _
  · simp only [resolve, hg]
    simp [go_sem]
  · intro f' _; trivial
  · simp [invoke, go_sem, eg]
  · let CC : σ → World → Prop := fun s W => C s W ∧ Blk W (w.heap.size + 1) (.loop (rec .ready none)) ∧ Blk W w.heap.size (.deferred (some []))
    have key := IS (w.heap.size + 1) CC W1 (fun s Wa Wb ⟨h1, h2, h3⟩ e => ⟨hC s _ _ h1 (e.mono (fun b _ h => by rw [hs1] at h; exact .inr (.inr h))), h2.keeps e (by rw [hs1]; omega), h3.keeps e (by rw [hs1]; omega)⟩)
      (fun s W h => hS s W h.1) ?_ ⟨hC s0 _ _ h0 (hX1.mono (fun _ _ h => h.elim)), hL1, hK1⟩
    · refine CallsIn.mono key ?_
      rintro e W' ⟨⟨v, rfl⟩, s, hd, h1, h3, h4⟩
      obtain ⟨ox, he⟩ : ∃ ox, (Instr.endLoop (w.heap.size + 1)).run P W' = .ok none (W'.putObj (w.heap.size + 1) ox) := ⟨_, (run_endLoop (r := rec .ready none) h3 (by rw [hrec]; simp)).trans (by rw [hrec])⟩
      exact ⟨none, _, he, hdone s _ hd (hC s _ _ h1 ((Keeps.onePut _ _ _).mono (fun b _ h => .inr (.inl h)))) (h4.put_other (by omega) _)⟩
    · rintro s v s' W hst ⟨h1, h3, h4⟩ hlt
      rw [hs1] at hlt
      refine ⟨_, _, _, _, run_yield h3 (by rw [hrec]; exact hps s v s' hst), ?_⟩
      refine roundIn_of_wpIn trivial ?_
      rw [show (rec .ready none).tmps = a.tmps from by rw [hrec], show (rec .ready none).params = ps from by rw [hrec], show (rec .ready none).assign = assign from by rw [hrec], show (rec .ready none).body = body from by rw [hrec]]
      refine hassign _ v s s' W _ hst ?_
      refine ⟨_, run_beginRound h3 (by rw [hrec]), ?_⟩
      have hb1 : C s (W.putObj (w.heap.size + 1) (.loop { rec .ready none with state := .busy })) := hC s _ _ h1 ((Keeps.onePut _ _ _).mono (fun b _ h => .inr (.inl h)))
      refine Code.wpIn_mono ?_ (hbody (w.heap.size + 1) v s s' _ hst hb1 (by rw [World.putObj_size]; exact hlt))
      have fin : ∀ (j : Option Code) (W' : World), Keeps (fun b => b ≠ w.heap.size ∧ b ≠ w.heap.size + 1 ∧ b ≠ w.heap.size + 2) (W.putObj (w.heap.size + 1) (.loop { rec .ready none with state := .busy })) W' →
          (Instr.endRound (w.heap.size + 1) j).run P W' = .ok (.bool j.isNone) (W'.putObj (w.heap.size + 1) (.loop (rec (if j.isNone then .ready else .done) j))) ∧
          Blk (W'.putObj (w.heap.size + 1) (.loop (rec (if j.isNone then .ready else .done) j))) (w.heap.size + 1) (.loop (rec (if j.isNone then .ready else .done) j)) ∧
          Blk (W'.putObj (w.heap.size + 1) (.loop (rec (if j.isNone then .ready else .done) j))) w.heap.size (.deferred (some [])) := by
        intro j W' hK
        have hl : Blk W' (w.heap.size + 1) (.loop { rec .ready none with state := .busy }) := (h3.put_same _).keeps hK (fun h => h.2.1 rfl)
        have hd : Blk W' w.heap.size (.deferred (some [])) := (h4.put_other (by omega) _).keeps hK (fun h => h.1 rfl)
        refine ⟨?_, hl.put_same _, hd.put_other (by omega) _⟩
        rw [run_endRound j hl, hrec]
      intro e a' W' hq
      cases e with
      | normal =>
        obtain ⟨hK, hc⟩ := hq
        obtain ⟨f1, f2, f3⟩ := fin none W' hK
        have k1 : Keeps (fun b => b ≠ W1.heap.size) W (W.putObj (w.heap.size + 1) (.loop { rec .ready none with state := .busy })) := (Keeps.onePut _ _ _).mono (fun b _ h => by have h : b = w.heap.size + 1 := h; rw [hs1]; omega)
        have k2 : Keeps (fun b => b ≠ W1.heap.size) (W.putObj (w.heap.size + 1) (.loop { rec .ready none with state := .busy })) W' := hK.mono (fun b _ h => by rw [hs1]; exact h.2.2)
        have k3 : Keeps (fun b => b ≠ W1.heap.size) W' (W'.putObj (w.heap.size + 1) (.loop (rec .ready none))) := (Keeps.onePut _ _ _).mono (fun b _ h => by have h : b = w.heap.size + 1 := h; rw [hs1]; omega)
        exact ⟨_, _, f1, rfl, (k1.trans k2).trans k3, hC s' _ _ hc ((Keeps.onePut _ _ _).mono (fun b _ h => .inr (.inl h))), f2, f3⟩
      | _ => exact hq.elim
end
end Go.Proofs.YtolhikjjchfnjaaGreatDoor
/- canon: the keys of a map, in order. -/
namespace Go.Proofs.YtolhikjjchfnjaaGreatDoor
section
open Go Go.RowKit
set_option linter.unusedSimpArgs false
set_option linter.unusedVariables false
attribute [local go_sem] Oper.semAt_some
abbrev EntS := Ent (List UInt8)
theorem Tryz.uMapSE : Tryz.prog.underlying 79 = some (.map 9 52) := by kernel_rfl
def bornS (s : List EntS) : Array Nat := (s.map (·.2.2)).toArray
def KStep (es : List EntS) (s : List EntS) (v : Array Value) (s' : List EntS) : Prop := ∃ x ∈ entLeft es (bornS s), v = #[str x.1] ∧ s' = s ++ [x]
def KDone (es : List EntS) (s : List EntS) : Prop := entLeft es (bornS s) = []
def seenAt (w : World) (r : Nat) : Array Nat := match w.heap[r]? with | some (.mapIter _ _ s _) => s | _ => #[]
theorem seenAt_blk {w : World} {r : Nat} {m : Option Nat} {a b : Nat} {s : Array Nat} (h : Blk w r (.mapIter m a s b)) : seenAt w r = s := by
  unfold seenAt; rw [show w.heap[r]? = _ from h]
theorem left_lt {es : List EntS} {s : List EntS} {x : EntS} (hx : x ∈ entLeft es (bornS s)) : (entLeft es (bornS (s ++ [x]))).length < (entLeft es (bornS s)).length := by
  have e : entLeft es (bornS (s ++ [x])) = (entLeft es (bornS s)).filter (fun y => !(y.2.2 == x.2.2)) := by
    unfold entLeft bornS
    rw [List.filter_filter]
    refine List.filter_congr (fun y _ => ?_)
    simp only [List.contains_toArray, List.map_append, List.map_cons, List.map_nil, List.contains_append]
    by_cases h1 : y.2.2 = x.2.2 <;> simp [h1]
  rw [e, List.length_filter_lt_length_iff_exists]
  exact ⟨x, hx, by simp⟩
def KyS (bx bm ck : Nat) (es : List EntS) (W : World) : Prop := Blk W bx (.cells #[.map (some bm)] 79) ∧ Blk W bm (.map (Tryz.ES.arr es) ck)
def KyRel (r bm ck : Nat) (es : List EntS) (C : List EntS → World → Prop) (wr : World) : Prop := ∃ s, C s wr ∧ Blk wr r (.mapIter (some bm) ck (bornS s) ck)
set_option maxRecDepth 100000 in
set_option maxHeartbeats 2000000 in
theorem keys_it (bx bm ck : Nat) (es : List EntS) (hnd : (es.map (·.2.2)).Nodup) (hlt : ∀ x ∈ es, x.2.2 < ck) :
    IterM Tryz.prog 84 #[.pointer (some ⟨bx, 0, none⟩)] ([] : List EntS) (KStep es) (KDone es) (KyS bx bm ck es) := by
  intro l C W hC hS hY h0
  obtain ⟨hx, hm⟩ := hS _ _ h0
  have c1 := hx.cell (i := 0) (v := .map (some bm)) (by rfl)
  have hrg := run_range Tryz.ES Tryz.uMapSE hm
  have HC0 := Lib.hid (show C [] (W.alloc (.mapIter (some bm) ck #[] ck)) from hC [] _ _ h0 (((ExtR W).alloc _).mono (fun _ _ h => h.elim)))
  have HC := Lib.hid hC
  have HS := Lib.hid hS
  have HY := Lib.hid hY
  have HND := Lib.hid hnd
  have HLT := Lib.hid hlt
  clear hC hS hY h0 hx hm hnd hlt
  refine callsIn_of_wp Tryz.func84 rfl trivial ?_ rfl
  simp only [Tryz.ntmps84, List.size_toArray, List.length_cons, List.length_nil, Nat.reduceAdd, Nat.reduceSub, Array.replicate_succ, Array.replicate_zero, List.push_toArray, List.append_toArray, List.nil_append, List.cons_append]
  gi_wp2_with fail
  obtain ⟨r, hr⟩ : ∃ r, r = W.heap.size := ⟨_, rfl⟩
  have HR := Lib.hid hr
  rw [← hr]
  clear hr
  gi_loopw [] (fun wr => KyRel r bm ck es C wr) (fun wr => (entLeft es (seenAt wr r)).length)
  case atStart => exact ⟨[], HC0.out, by rw [HR.out]; exact Blk.new W _⟩
  case round =>
    obtain ⟨s, hCs, hB⟩ := hrel
    obtain ⟨hx, hm⟩ := HS.out _ _ hCs
    rcases run_next Tryz.ES hm hB HLT.out 0 with ⟨hl0, hnx⟩ | ⟨x, hxl, w2, hnx, hr2, hk2⟩
    · have HDN := Lib.hid (show KDone es s from hl0)
      have HCs := Lib.hid hCs
      clear hl0 hCs hx hm hB HC HS HY HND HLT HC0 c1 hrg
      gi_wp2_with fail
      refine bodyPost_end (results_none rfl _ _ _) rfl ?_
      exact ⟨⟨_, rfl⟩, s, HDN.out, HCs.out⟩
    · have hne : r ≠ bm := fun e => by have := hm.uniq (e ▸ hB); cases this
      have hm2 := hm.keeps hk2 (fun e => hne e.symm)
      have hxm : x ∈ es := (List.mem_filter.1 hxl).1
      have hen := run_entry Tryz.ES hm2 hxm hr2 HND.out
      have hC2 : C s w2 := HC.out s _ _ hCs (hk2.mono (fun b _ e => by rw [← HR.out]; exact e))
      obtain ⟨fn, tm, asg, bd, hyr, hrd⟩ := HY.out s #[str x.1] (s ++ [x]) w2 ⟨x, hxl, rfl, rfl⟩ hC2 (by rw [← HR.out]; exact hr2.lt)
      have hyr' : (Instr.yield l #[Tryz.ES.κ x.1]).run Tryz.prog w2 = .ok (.round l fn tm asg bd) w2 := hyr
      have HXL := Lib.hid hxl
      have HSN := Lib.hid (seenAt_blk hB)
      have hbs : (bornS s).push x.2.2 = bornS (s ++ [x]) := by unfold bornS; simp
      rw [hbs] at hr2
      have HR2 := Lib.hid hr2
      have HRD := Lib.hid hrd
      clear hyr hC2 hCs hx hm hB HC HS HND HLT HC0 c1 hrg hm2 hk2 hxl hxm hr2 hrd hbs hne
      gi_wp2_with fail
      refine ⟨rfl, HRD.out.mono ?_⟩
      rintro e w5 ⟨rfl, k5, C5⟩
      have HB5 := Lib.hid (HR2.out.keeps k5 (fun h => h HR.out))
      have HC5 := Lib.hid C5
      clear C5 k5 hnx hen hyr'
      gi_wp2_with fail
      go_roundw
      case rel => exact ⟨_, HC5.out, HB5.out⟩
      case measure =>
        rw [seenAt_blk HB5.out, HSN.out]; exact left_lt HXL.out
end
end Go.Proofs.YtolhikjjchfnjaaGreatDoor
/- canon: the keys of a map, as a row, in order. -/
namespace Go.Proofs.YtolhikjjchfnjaaGreatDoor
section
open Go Go.RowKit
set_option linter.unusedSimpArgs false
set_option linter.unusedVariables false
attribute [local go_sem] Oper.semAt_some
def keyB (x : EntS) : ByteArray := ⟨x.1.toArray⟩
theorem str_keyB (x : EntS) : str x.1 = .string (keyB x) := rfl
theorem Tryz.enterKeys1 : ∀ args w, (callFunc 84 args).run Tryz.prog w = .ok (.enter 84 args) w := fun _ _ => by kernel_rfl
def InvS (es s : List EntS) : Prop := (s.map (·.2.2)).Nodup ∧ ∀ x ∈ s, x ∈ es
theorem InvS.step {es s s' : List EntS} {v : Array Value} (h : InvS es s) (k : KStep es s v s') : InvS es s' := by
  obtain ⟨x, hx, _, rfl⟩ := k
  obtain ⟨h1, h2⟩ := List.mem_filter.1 hx
  have h2 : x.2.2 ∉ s.map (·.2.2) := by simpa [bornS] using h2
  refine ⟨?_, fun z hz => ?_⟩
  · rw [List.map_append, List.nodup_append]
    exact ⟨h.1, by simp, fun a ha b hb e => by simp at hb; subst hb; subst e; exact h2 ha⟩
  · rcases List.mem_append.1 hz with hz | hz
    · exact h.2 z hz
    · simp at hz; exact hz ▸ h1
theorem InvS.len {es s : List EntS} (h : InvS es s) : s.length ≤ es.length := by
  have := List.Nodup.length_le_of_subset h.1 (l₂ := es.map (·.2.2)) (fun k hk => by
    obtain ⟨z, hz, e⟩ := List.mem_map.1 hk; exact List.mem_map.2 ⟨z, h.2 z hz, e⟩)
  simpa using this
theorem InvS.perm {es s : List EntS} (h : InvS es s) (hd : KDone es s) (hst : (es.map (·.2.2)).Nodup) (hkn : (es.map (·.1)).Nodup) : (s.map (·.1)).Perm (es.map (·.1)) := by
  have hsub : ∀ x ∈ es, x ∈ s := by
    intro x hx
    by_cases hc : x.2.2 ∈ s.map (·.2.2)
    · obtain ⟨z, hz, e⟩ := List.mem_map.1 hc
      have := nodup_map_inj hst (h.2 z hz) hx e
      exact this ▸ hz
    · have : x ∈ entLeft es (bornS s) := by
        refine List.mem_filter.2 ⟨hx, ?_⟩
        simpa [bornS] using hc
      rw [hd] at this; cases this
  have hnd : (s.map (·.1)).Nodup := by
    have h1 := h.1
    have h2 := h.2
    clear h hd hsub
    induction s with
    | nil => simp
    | cons z r ih =>
      rw [List.map_cons, List.nodup_cons] at h1 ⊢
      refine ⟨fun hm => ?_, ih h1.2 (fun x hx => h2 x (List.mem_cons_of_mem _ hx))⟩
      obtain ⟨y, hy, e⟩ := List.mem_map.1 hm
      have := nodup_map_inj hkn (h2 y (List.mem_cons_of_mem _ hy)) (h2 z (List.mem_cons_self ..)) e
      exact h1.1 (List.mem_map.2 ⟨y, hy, by rw [this]⟩)
  refine perm_of_mem_iff hnd hkn fun k => ?_
  constructor
  · intro hk; obtain ⟨z, hz, e⟩ := List.mem_map.1 hk; exact List.mem_map.2 ⟨z, h.2 z hz, e⟩
  · intro hk; obtain ⟨z, hz, e⟩ := List.mem_map.1 hk; exact List.mem_map.2 ⟨z, hsub z hz, e⟩
/-- Where the round stands. -/
structure AppS (w : World) (es s : List EntS) (W : World) : Prop where
  ext : Ext w W
  inv : InvS es s
  var : ∃ v, Blk W w.heap.size (.cells #[v] 29) ∧ W.ownsRow 0 9 1 v s.length ((s.map keyB).map Value.string) ∧ ∀ b, v.ownBlock = some b → w.heap.size + 4 ≤ b
theorem AppS.st {w : World} {es s : List EntS} {W W' : World} (h : AppS w es s W) (k : Keeps (fun b => b = w.heap.size + 1 ∨ b = w.heap.size + 1 + 1 ∨ b = w.heap.size + 1 + 2) W W') : AppS w es s W' := by
  obtain ⟨v, h1, h2, h3⟩ := h.var
  exact ⟨h.ext.trans' k (fun x hx e => by omega), h.inv, v, h1.keeps k (by omega), own_keeps h2 k (fun b hb e => by have := h3 b hb; omega), h3⟩
set_option maxRecDepth 100000 in
set_option maxHeartbeats 4000000 in
theorem appseq_c (w : World) (bx bm ck : Nat) (es : List EntS) (hk : KyS bx bm ck es w) (hnd : (es.map (·.2.2)).Nodup) (hlt : ∀ x ∈ es, x.2.2 < ck) (hlen : es.length ≤ 1000000) :
    Calls Tryz.prog 108 #[.slice none 0 0, .func (.func 84) #[] #[.pointer (some ⟨bx, 0, none⟩)]] w fun e w' => ∃ u s, e = .returned u ∧ InvS es s ∧ KDone es s ∧ SRow w w' u s.length (s.map keyB) := by
  have HIT := Lib.hid (keys_it bx bm ck es hnd hlt)
  have HK := Lib.hid hk
  clear hk hnd hlt
  rw [← callsIn_wide (n := 0)]
  refine callsIn_of_wp_marks Tryz.func108 rfl trivial ?_ rfl
  simp only [Tryz.ntmps108, List.size_toArray, List.length_cons, List.length_nil, Nat.reduceAdd, Nat.reduceSub, Array.replicate_succ, Array.replicate_zero, List.push_toArray, List.append_toArray, List.nil_append, List.cons_append]
  gi_wp2_with fail
  obtain ⟨w1, hw1⟩ : ∃ w1, w1 = w.alloc (.cells #[.slice none 0 0] 29) := ⟨_, rfl⟩
  rw [← hw1]
  have hs1 : w1.heap.size = w.heap.size + 1 := by rw [hw1]; simp
  have S0 : AppS w es [] w1 := by
    rw [hw1]
    exact ⟨(ExtR w).alloc _, ⟨by simp, fun x hx => by cases hx⟩, _, Blk.new w _, World.ownsRow_nil _ _ _ _, fun b hb => by cases hb⟩
  have HS0 := Lib.hid S0
  clear S0 hw1
  refine wp_rangeM (gf := 84) (lb := #[.pointer (some ⟨bx, 0, none⟩)]) rfl Tryz.enterKeys1 HIT.out
    (fun s v s' h => by obtain ⟨x, _, rfl, _⟩ := h; rfl) (AppS w es) (fun s W W' h k => h.st (by rw [hs1] at k; exact k)) (fun s W h => ⟨HK.out.1.keeps h.ext (fun h => h), HK.out.2.keeps h.ext (fun h => h)⟩) HS0.out
    (fun v => { tmps := #[.slice none 0 0, .func (.func 84) #[] #[.pointer (some ⟨bx, 0, none⟩)], .pointer (some ⟨w.heap.size, 0, none⟩), undef, .slice none 0 0, v.getD 0 undef, .func (.func 84) #[] #[.pointer (some ⟨bx, 0, none⟩)], v.getD 0 undef, undef, undef, undef, undef, undef], defers := [] })
    ?hassign ?hbody ?hdone
  case hassign =>
    intro l2 v s s' W K hst hK
    obtain ⟨x, _, rfl, _⟩ := hst
    rw [str_keyB] at hK ⊢
    rw [fold1]
    simp only [List.set_cons_zero, List.set_cons_succ]
    gi_wp2
    exact hK
  case hbody =>
    intro l2 v s s' W hst h hlt
    have hinv := h.inv.step hst
    obtain ⟨x, hx, rfl, rfl⟩ := hst
    obtain ⟨v, h1, h2, h3⟩ := h.var
    obtain ⟨ad, cp, rfl⟩ := row_slice h2
    rw [str_keyB]
    obtain ⟨q, hq⟩ : ∃ q, q = keyB x := ⟨_, rfl⟩
    rw [← hq]
    have hln : s.length ≤ 1000000 := Nat.le_trans h.inv.len hlen
    have hV := h1.cell (i := 0) (v := .slice ad s.length cp) (by rfl)
    have hVf : W.frozen? ⟨w.heap.size, 0, none⟩ = false := h1.frozen
    obtain ⟨n, hn⟩ : ∃ n, n = s.length := ⟨_, rfl⟩
    rw [← hn] at h2 hln hV h1 h3
    have hlt : w.heap.size + 3 < W.heap.size := by rw [hs1] at hlt; omega
    have HN := Lib.hid hn
    have HQ := Lib.hid hq
    have HV := Lib.hid h1
    have HO := Lib.hid h2
    have H3 := Lib.hid h3
    have HE := Lib.hid h.ext
    have HI := Lib.hid hinv
    rw [show (#[Value.string q] : Array Value).getD 0 undef = .string q from rfl]
    clear h h1 h2 h3 hinv hx hn hq HS0
    obtain ⟨i0, hi, hz0, hz1, hz2⟩ := info_parts Tryz.infoStr
    gi_wp2_with (gi_at_builtin; refine wpListIn_append_any _ rfl (.tmp 8) (.tmp 10) 29 rfl 9 i0 _ 1 16 Tryz.uStrs hi hz0 hz1 hz2 rfl (by decide) (.slice ad n cp) n _ rfl (own_ext HO.out ((ExtR W).alloc _)) ⟨W.heap.size, 0, none⟩ 1 1 [.string q] rfl rfl (news_blk (Blk.new W _)) (by simp [Value.oneCell']) (by unfold maxLen; omega) (by omega) ?_; intro v' w6 r1 r2 r3; obtain ⟨ad', cp', rfl⟩ := row_slice r1; have hV6 := (HV.out.alloc _).keeps r2 (fun e => by have := H3.out _ e; omega); have q56 : w6.cell? ⟨w.heap.size, 0, none⟩ = some (.slice ad n cp) := hV6.cell (i := 0) (by rfl); have f56 : w6.frozen? ⟨w.heap.size, 0, none⟩ = false := hV6.frozen)
    have r1' : w6.ownsRow 0 9 1 (.slice ad' (n + 1) cp') (s ++ [x]).length (((s ++ [x]).map keyB).map Value.string) := by
      rw [List.length_append, ← HN.out, List.map_append, List.map_append]
      have := r1; rw [HQ.out] at this; exact this
    have K6 : Keeps (fun b => (Value.slice ad n cp).ownBlock = some b) W w6 := ((Keeps.refl _ W).alloc _).trans r2
    have hv' : ∀ b, (Value.slice ad' (n + 1) cp').ownBlock = some b → w.heap.size + 4 ≤ b := fun b hb => by
      rcases r3 with r3 | r3
      · exact H3.out b (r3 ▸ hb)
      · have h9 := r3 b hb; rw [World.size_alloc] at h9; omega
    have K7 : Keeps (fun b => b = w.heap.size) w6 (w6.setCell ⟨w.heap.size, 0, none⟩ (.slice ad' (n + 1) cp')) := Keeps.oneSet w6 ⟨w.heap.size, 0, none⟩ _
    refine ⟨(K6.mono (fun y _ e => ?_)).trans (K7.mono (fun y _ e => ?_)), ?_⟩
    · have := H3.out y e; rw [hs1]; omega
    · have e : y = _ := e; rw [hs1]; omega
    · exact ⟨(HE.out.trans' K6 (fun y hy e => by have := H3.out y e; omega)).trans' K7 (fun y hy e => by have e : y = _ := e; omega), HI.out,
        _, hV6.set_same (i := 0) _, own_keeps r1' K7 (fun b hb e => by have := hv' b hb; omega), hv'⟩
  case hdone =>
    intro s W hdn h hd
    obtain ⟨v, h1, h2, h3⟩ := h.var
    obtain ⟨ad, cp, rfl⟩ := row_slice h2
    have q5 : W.cell? ⟨w.heap.size, 0, none⟩ = some (.slice ad s.length cp) := h1.cell (i := 0) (by rfl)
    have H2 := Lib.hid h2
    have H3 := Lib.hid h3
    have HX := Lib.hid h.ext
    have HI := Lib.hid h.inv
    have HDN := Lib.hid hdn
    have HD := Lib.hid hd
    clear h h1 h2 h3 hd hdn HS0
    gi_wp2_with fail
    refine ⟨by simp, .inl ⟨_, _, rfl, run_takeDeferred HD.out, ?_⟩⟩
    refine ⟨_, results_tmp rfl _ _ _, ?_⟩
    have hK := Keeps.onePut W w1.heap.size (.deferred none)
    exact ⟨.slice ad s.length cp, s, rfl, HI.out, HDN.out, ⟨_, _, rfl⟩, own_keeps H2.out hK (fun b hb e => by have := H3.out b hb; rw [hs1] at e; omega), HX.out.putObj (.inr (by omega)) _, fun b hb => by have := H3.out b hb; omega⟩
end
end Go.Proofs.YtolhikjjchfnjaaGreatDoor
