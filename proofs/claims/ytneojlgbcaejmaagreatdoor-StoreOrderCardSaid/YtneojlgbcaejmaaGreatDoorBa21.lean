/- Parts of the proof, one behind the other: CanonA, MixD, CanonB. Each is under no condition but those that it states. -/
import Derived.Test.YtneojlgbcaejmaaGreatDoorBa20
import Derived.Test.YtneojlgbcaejmaaGreatDoorBa16
import Derived.Test.YtneojlgbcaejmaaGreatDoorBa7
import Derived.Test.YtneojlgbcaejmaaGreatDoorBa3
import Derived.Laws.Cover1
/- canon: keyed, valued, Check. -/
namespace Go.Proofs.YtneojlgbcaejmaaGreatDoor
section
open Go Go.RowKit
set_option linter.unusedSimpArgs false
set_option linter.unusedVariables false
abbrev Pair := ByteArray × ByteArray
def keyedB (k : ByteArray) : Bool := decide (0 < k.size ∧ k.size ≤ 6)
def valuedB (k : ByteArray) : Bool := decide (0 < k.size ∧ k.size ≤ 80)
theorem ba_empty {s : ByteArray} (h : s.size = 0) : s = ⟨#[]⟩ := by
  obtain ⟨⟨l⟩⟩ := s
  cases l with
  | nil => rfl
  | cons x y => exact absurd h (Nat.succ_ne_zero _)
set_option maxRecDepth 100000 in
theorem keyed_c (w : World) (k : ByteArray) (hs : k.size ≤ 9223372036854775807) : Calls Tryz.prog 65 #[.string k] w fun e w' => e = .returned (.bool (keyedB k)) ∧ w' = w := by
  by_cases h0 : k.size = 0
  · have := ba_empty h0
    subst this
    go_enter Tryz.func65, Tryz.ntmps65
    go_wp2_with fail
    go_ret
    exact ⟨rfl, rfl⟩
  · have hne := ne_empty (s := k) (by omega)
    by_cases h6 : k.size ≤ 6
    · have c : (k.size : Int) ≤ 6 := by omega
      have e : keyedB k = true := by unfold keyedB; simp; omega
      have E := Lib.hid e
      clear e
      go_enter Tryz.func65, Tryz.ntmps65
      go_wp2_with fail
      go_ret
      exact ⟨by rw [E.out]; rfl, rfl⟩
    · have c : ¬ (k.size : Int) ≤ 6 := by omega
      have e : keyedB k = false := by unfold keyedB; simp; omega
      have E := Lib.hid e
      clear e
      go_enter Tryz.func65, Tryz.ntmps65
      go_wp2_with fail
      go_ret
      exact ⟨by rw [E.out]; rfl, rfl⟩
set_option maxRecDepth 100000 in
theorem valued_c (w : World) (k : ByteArray) (hs : k.size ≤ 9223372036854775807) : Calls Tryz.prog 66 #[.string k] w fun e w' => e = .returned (.bool (valuedB k)) ∧ w' = w := by
  by_cases h0 : k.size = 0
  · have := ba_empty h0
    subst this
    go_enter Tryz.func66, Tryz.ntmps66
    go_wp2_with fail
    go_ret
    exact ⟨rfl, rfl⟩
  · have hne := ne_empty (s := k) (by omega)
    by_cases h6 : k.size ≤ 80
    · have c : (k.size : Int) ≤ 80 := by omega
      have e : valuedB k = true := by unfold valuedB; simp; omega
      have E := Lib.hid e
      clear e
      go_enter Tryz.func66, Tryz.ntmps66
      go_wp2_with fail
      go_ret
      exact ⟨by rw [E.out]; rfl, rfl⟩
    · have c : ¬ (k.size : Int) ≤ 80 := by omega
      have e : valuedB k = false := by unfold valuedB; simp; omega
      have E := Lib.hid e
      clear e
      go_enter Tryz.func66, Tryz.ntmps66
      go_wp2_with fail
      go_ret
      exact ⟨by rw [E.out]; rfl, rfl⟩
theorem Tryz.enterKeyed : ∀ args w, (callFunc 65 args).run Tryz.prog w = .ok (.enter 65 args) w := fun _ _ => by kernel_rfl
theorem Tryz.enterValued : ∀ args w, (callFunc 66 args).run Tryz.prog w = .ok (.enter 66 args) w := fun _ _ => by kernel_rfl
/-- A slice of pairs of texts that is read. -/
def RdP (w : World) (v : Value) (xs : List Pair) : Prop :=
  (∃ a c, v = .slice a 0 c ∧ xs = []) ∨ ∃ b o c, v = .slice (some ⟨b, o, none⟩) xs.length c ∧ b < w.heap.size ∧ xs.length ≤ c ∧ ∀ (j : Nat) x, xs[j]? = some x → w.cell? ⟨b, o + j * 2, none⟩ = some (.string x.1) ∧ w.cell? ⟨b, o + j * 2 + 1, none⟩ = some (.string x.2)
theorem RdP.ext {w w' : World} {v : Value} {xs : List Pair} (h : RdP w v xs) (k : Ext w w') : RdP w' v xs := by
  rcases h with h | ⟨b, o, c, h1, h2, h3, h4⟩
  · exact .inl h
  · exact .inr ⟨b, o, c, h1, Nat.lt_of_lt_of_le h2 k.size, h3, fun j x hx => ⟨cell_ext (h4 j x hx).1 k, cell_ext (h4 j x hx).2 k⟩⟩
theorem RdP.sl {w : World} {v : Value} {xs : List Pair} (h : RdP w v xs) : ∃ a c, v = .slice a xs.length c := by
  rcases h with ⟨a, c, h1, h2⟩ | ⟨b, o, c, h1, _⟩
  · exact ⟨a, c, by rw [h1, h2]; rfl⟩
  · exact ⟨_, c, h1⟩
def Pair.V (p : Pair) : Value := .agg #[.string p.1, .string p.2]
/-- Is the entry, behind the one ahead, one that may not be? -/
def badN (l : List Pair) (i : Nat) : Bool := !keyedB (l.getD i (⟨#[]⟩, ⟨#[]⟩)).1 || !valuedB (l.getD i (⟨#[]⟩, ⟨#[]⟩)).2 || (decide (0 < i) && !lessB (l.getD (i - 1) (⟨#[]⟩, ⟨#[]⟩)).1 (l.getD i (⟨#[]⟩, ⟨#[]⟩)).1)
def checkN (l : List Pair) : Int := if (List.range l.length).any (badN l) then 1 else if 40 < l.length then 12 else 0
def ChkRel (w : World) (l : List Pair) (i : Value) (wr : World) : Prop := ∃ k : Nat, k ≤ l.length ∧ i = .int .i64 k ∧ Ext w wr ∧ (List.range k).any (badN l) = false
set_option maxRecDepth 100000 in
set_option maxHeartbeats 2000000 in
theorem check_c (w : World) (v : Value) (l : List Pair) (hv : RdP w v l) (hn : l.length ≤ 9223372036854775807) (hs : ∀ p ∈ l, p.1.size ≤ 9223372036854775807 ∧ p.2.size ≤ 9223372036854775807) : Calls Tryz.prog 48 #[v] w fun e w' => e = .returned (.int .i64 (checkN l)) ∧ Ext w w' := by
  obtain ⟨a, c, hsl⟩ := hv.sl
  have HV := Lib.hid hv
  have HS := Lib.hid hs
  subst hsl
  clear hv hs
  go_enter Tryz.func48, Tryz.ntmps48
  go_wp2_with fail
  go_loopw [7] (fun i wr => ChkRel w l i wr) (fun i _ => l.length - (intOf i).toNat)
  case atStart => exact ⟨0, by omega, rfl, ExtR w, rfl⟩
  case round =>
    obtain ⟨k, hk, rfl, hE, hall⟩ := hrel
    have HE := Lib.hid hE
    have HALL := Lib.hid hall
    clear hE hall
    by_cases hlt : k < l.length
    · rcases HV.out with ⟨_, _, _, h0⟩ | ⟨b, o, c', hh, hb, hc, hcell⟩
      · rw [h0] at hlt; cases hlt
      cases hh
      obtain ⟨p, hp⟩ : ∃ p, l[k]? = some p := ⟨_, List.getElem?_eq_getElem hlt⟩
      obtain ⟨q1, q2⟩ := hcell k p hp
      have q1 := cell_ext q1 HE.out
      have q2 := cell_ext q2 HE.out
      have b1 : (k : Int) < (l.length : Int) := by omega
      obtain ⟨x, y⟩ := p
      simp only at q1 q2
      have hgd : l.getD k (⟨#[]⟩, ⟨#[]⟩) = (x, y) := by rw [List.getD_eq_getElem?_getD, hp]; rfl
      have hsx := HS.out (x, y) (List.mem_of_getElem? hp)
      have HSX := Lib.hid hsx.1
      have HSY := Lib.hid hsx.2
      have hq0 : (wr.alloc (.cells #[.string x, .string y] 45)).cell? ⟨wr.heap.size, 0, none⟩ = some (.string x) := (Blk.new wr _).cell (by rfl)
      have hq1 : (wr.alloc (.cells #[.string x, .string y] 45)).cell? ⟨wr.heap.size, 1, none⟩ = some (.string y) := (Blk.new wr _).cell (by rfl)
      have Q0 := Lib.hid hq0
      have Q1 := Lib.hid hq1
      have hbadk : badN l k = true → checkN l = 1 := fun h => by
        unfold checkN; rw [if_pos (List.any_eq_true.2 ⟨k, List.mem_range.2 hlt, h⟩)]
      have hnext : badN l k = false → (List.range (k + 1)).any (badN l) = false := fun h => by
        rw [List.range_succ, List.any_append, HALL.out]; simp [h]
      cases hk1 : keyedB x with
      | false =>
        have HBAD := Lib.hid (hbadk (by unfold badN; rw [hgd, hk1]; rfl))
        have HK := Lib.hid hk1
        clear hk1 hgd hsx hq0 hq1 hbadk hnext hcell hp
        go_wp2_with fail
        refine wp_region_mixK (List.range 25) Ext ExtR ExtT (by kernel_rfl) (by kernel_rfl) (by kernel_rfl) ?_
        simp only [List.range, List.range.loop]
        iterate 1 (refine mixk_pure _ rfl (by kernel_rfl) rfl rfl (fun K hK => ?_); go_big_quiet_op; refine hK _ ?_; clear hK K)
        refine mixk_load ⟨wr.heap.size, 0, none⟩ _ rfl (by kernel_rfl) rfl rfl (fun w2 h2 => run_load_plain Tryz.uStr rfl (cell_ext (by exact Q0.out) h2)) ?_
        simp only [Act.put, List.setIfInBounds_toArray, List.set_cons_zero, List.set_cons_succ]
        refine mixk_call _ 65 #[.string x] (.bool false) rfl (by kernel_rfl) rfl (fun w1 => exec_call Tryz.enterKeyed (by kernel_rfl)) (fun w1 h1 => (keyed_c w1 x (by have := HSX.out; omega)).mono (fun e w2 ⟨h1, h2⟩ => ⟨by rw [h1, HK.out], h2 ▸ ExtR w1⟩)) ?_
        simp only [Act.put, List.setIfInBounds_toArray, List.set_cons_zero, List.set_cons_succ]
        iterate 2 (refine mixk_pure _ rfl (by kernel_rfl) rfl rfl (fun K hK => ?_); go_big_quiet_op; refine hK _ ?_; clear hK K)
        iterate 4 (refine mixk_skip _ rfl (by kernel_rfl) rfl ?_; simp only [Act.put, List.setIfInBounds_toArray, List.set_cons_zero, List.set_cons_succ])
        iterate 2 (refine mixk_pure _ rfl (by kernel_rfl) rfl rfl (fun K hK => ?_); go_big_quiet_op; refine hK _ ?_; clear hK K)
        iterate 3 (refine mixk_skip _ rfl (by kernel_rfl) rfl ?_; simp only [Act.put, List.setIfInBounds_toArray, List.set_cons_zero, List.set_cons_succ])
        iterate 9 (refine mixk_skip _ rfl (by kernel_rfl) rfl ?_; simp only [Act.put, List.setIfInBounds_toArray, List.set_cons_zero, List.set_cons_succ])
        iterate 1 (refine mixk_skip _ rfl (by kernel_rfl) rfl ?_; simp only [Act.put, List.setIfInBounds_toArray, List.set_cons_zero, List.set_cons_succ])
        iterate 1 (refine mixk_pure _ rfl (by kernel_rfl) rfl rfl (fun K hK => ?_); go_big_quiet_op; refine hK _ ?_; clear hK K)
        refine mixk_end (by kernel_rfl) (fun w3 he => ?_)
        have HE3 := Lib.hid (((HE.out.alloc _).trans (drewE _)).trans he)
        clear he
        go_wp2_with fail
        go_ret
        exact ⟨by rw [HBAD.out]; rfl, HE3.out⟩
      | true =>
        cases hv1 : valuedB y with
        | false =>
          have HBAD := Lib.hid (hbadk (by unfold badN; rw [hgd, hk1, hv1]; rfl))
          have HK := Lib.hid hk1
          have HVV := Lib.hid hv1
          clear hk1 hv1 hgd hsx hq0 hq1 hbadk hnext hcell hp
          go_wp2_with fail
          refine wp_region_mixK (List.range 25) Ext ExtR ExtT (by kernel_rfl) (by kernel_rfl) (by kernel_rfl) ?_
          simp only [List.range, List.range.loop]
          iterate 1 (refine mixk_pure _ rfl (by kernel_rfl) rfl rfl (fun K hK => ?_); go_big_quiet_op; refine hK _ ?_; clear hK K)
          refine mixk_load ⟨wr.heap.size, 0, none⟩ _ rfl (by kernel_rfl) rfl rfl (fun w2 h2 => run_load_plain Tryz.uStr rfl (cell_ext (by exact Q0.out) h2)) ?_
          simp only [Act.put, List.setIfInBounds_toArray, List.set_cons_zero, List.set_cons_succ]
          refine mixk_call _ 65 #[.string x] (.bool true) rfl (by kernel_rfl) rfl (fun w1 => exec_call Tryz.enterKeyed (by kernel_rfl)) (fun w1 h1 => (keyed_c w1 x (by have := HSX.out; omega)).mono (fun e w2 ⟨h1, h2⟩ => ⟨by rw [h1, HK.out], h2 ▸ ExtR w1⟩)) ?_
          simp only [Act.put, List.setIfInBounds_toArray, List.set_cons_zero, List.set_cons_succ]
          iterate 3 (refine mixk_pure _ rfl (by kernel_rfl) rfl rfl (fun K hK => ?_); go_big_quiet_op; refine hK _ ?_; clear hK K)
          refine mixk_load ⟨wr.heap.size, 1, none⟩ _ rfl (by kernel_rfl) rfl rfl (fun w2 h2 => run_load_plain Tryz.uStr rfl (cell_ext (by exact Q1.out) h2)) ?_
          simp only [Act.put, List.setIfInBounds_toArray, List.set_cons_zero, List.set_cons_succ]
          refine mixk_call _ 66 #[.string y] (.bool false) rfl (by kernel_rfl) rfl (fun w1 => exec_call Tryz.enterValued (by kernel_rfl)) (fun w1 h1 => (valued_c w1 y (by have := HSY.out; omega)).mono (fun e w2 ⟨h1, h2⟩ => ⟨by rw [h1, HVV.out], h2 ▸ ExtR w1⟩)) ?_
          simp only [Act.put, List.setIfInBounds_toArray, List.set_cons_zero, List.set_cons_succ]
          iterate 3 (refine mixk_pure _ rfl (by kernel_rfl) rfl rfl (fun K hK => ?_); go_big_quiet_op; refine hK _ ?_; clear hK K)
          iterate 3 (refine mixk_skip _ rfl (by kernel_rfl) rfl ?_; simp only [Act.put, List.setIfInBounds_toArray, List.set_cons_zero, List.set_cons_succ])
          iterate 9 (refine mixk_skip _ rfl (by kernel_rfl) rfl ?_; simp only [Act.put, List.setIfInBounds_toArray, List.set_cons_zero, List.set_cons_succ])
          iterate 1 (refine mixk_skip _ rfl (by kernel_rfl) rfl ?_; simp only [Act.put, List.setIfInBounds_toArray, List.set_cons_zero, List.set_cons_succ])
          iterate 1 (refine mixk_pure _ rfl (by kernel_rfl) rfl rfl (fun K hK => ?_); go_big_quiet_op; refine hK _ ?_; clear hK K)
          refine mixk_end (by kernel_rfl) (fun w3 he => ?_)
          have HE3 := Lib.hid (((HE.out.alloc _).trans (drewE _)).trans he)
          clear he
          go_wp2_with fail
          go_ret
          exact ⟨by rw [HBAD.out]; rfl, HE3.out⟩
        | true =>
          by_cases hk0 : k = 0
          · have HNEXT := Lib.hid (hnext (by unfold badN; rw [hgd, hk1, hv1, hk0]; rfl))
            subst hk0
            rw [Nat.zero_mul, Nat.add_zero] at q1 q2
            have HK := Lib.hid hk1
            have HVV := Lib.hid hv1
            clear hk1 hv1 hgd hsx hq0 hq1 hbadk hnext hcell hp
            go_wp2_with fail
            refine wp_region_mixK (List.range 25) Ext ExtR ExtT (by kernel_rfl) (by kernel_rfl) (by kernel_rfl) ?_
            simp only [List.range, List.range.loop]
            iterate 1 (refine mixk_pure _ rfl (by kernel_rfl) rfl rfl (fun K hK => ?_); go_big_quiet_op; refine hK _ ?_; clear hK K)
            refine mixk_load ⟨wr.heap.size, 0, none⟩ _ rfl (by kernel_rfl) rfl rfl (fun w2 h2 => run_load_plain Tryz.uStr rfl (cell_ext (by exact Q0.out) h2)) ?_
            simp only [Act.put, List.setIfInBounds_toArray, List.set_cons_zero, List.set_cons_succ]
            refine mixk_call _ 65 #[.string x] (.bool true) rfl (by kernel_rfl) rfl (fun w1 => exec_call Tryz.enterKeyed (by kernel_rfl)) (fun w1 h1 => (keyed_c w1 x (by have := HSX.out; omega)).mono (fun e w2 ⟨h1, h2⟩ => ⟨by rw [h1, HK.out], h2 ▸ ExtR w1⟩)) ?_
            simp only [Act.put, List.setIfInBounds_toArray, List.set_cons_zero, List.set_cons_succ]
            iterate 3 (refine mixk_pure _ rfl (by kernel_rfl) rfl rfl (fun K hK => ?_); go_big_quiet_op; refine hK _ ?_; clear hK K)
            refine mixk_load ⟨wr.heap.size, 1, none⟩ _ rfl (by kernel_rfl) rfl rfl (fun w2 h2 => run_load_plain Tryz.uStr rfl (cell_ext (by exact Q1.out) h2)) ?_
            simp only [Act.put, List.setIfInBounds_toArray, List.set_cons_zero, List.set_cons_succ]
            refine mixk_call _ 66 #[.string y] (.bool true) rfl (by kernel_rfl) rfl (fun w1 => exec_call Tryz.enterValued (by kernel_rfl)) (fun w1 h1 => (valued_c w1 y (by have := HSY.out; omega)).mono (fun e w2 ⟨h1, h2⟩ => ⟨by rw [h1, HVV.out], h2 ▸ ExtR w1⟩)) ?_
            simp only [Act.put, List.setIfInBounds_toArray, List.set_cons_zero, List.set_cons_succ]
            iterate 6 (refine mixk_pure _ rfl (by kernel_rfl) rfl rfl (fun K hK => ?_); go_big_quiet_op; refine hK _ ?_; clear hK K)
            iterate 9 (refine mixk_skip _ rfl (by kernel_rfl) rfl ?_; simp only [Act.put, List.setIfInBounds_toArray, List.set_cons_zero, List.set_cons_succ])
            iterate 2 (refine mixk_pure _ rfl (by kernel_rfl) rfl rfl (fun K hK => ?_); go_big_quiet_op; refine hK _ ?_; clear hK K)
            refine mixk_end (by kernel_rfl) (fun w3 he => ?_)
            have HE3 := Lib.hid (((HE.out.alloc _).trans (drewE _)).trans he)
            clear he
            go_wp2_with fail
            go_roundw
            case rel => exact ⟨0 + 1, by omega, by go_num, HE3.out, HNEXT.out⟩
            case measure => simp [intOf]; omega
          · obtain ⟨pp, hpp⟩ : ∃ p, l[k - 1]? = some p := ⟨_, List.getElem?_eq_getElem (by omega)⟩
            obtain ⟨z, zy⟩ := pp
            have hqp := cell_ext (cell_ext (hcell (k - 1) (z, zy) hpp).1 HE.out) ((ExtR wr).alloc (.cells #[.string x, .string y] 45))
            have QP := Lib.hid hqp
            have hgp : l.getD (k - 1) (⟨#[]⟩, ⟨#[]⟩) = (z, zy) := by rw [List.getD_eq_getElem?_getD, hpp]; rfl
            have c0 : (0 : Int) < (k : Int) := by omega
            have d0 : 0 < k := by omega
            have c1 : (0 : Int) ≤ (k : Int) - 1 := by omega
            have c2 : (k : Int) - 1 < (l.length : Int) := by omega
            have c3 : ((k : Int) - 1).toNat = k - 1 := by omega
            have HK := Lib.hid hk1
            have HVV := Lib.hid hv1
            cases hls : Op.bytesLess z.toList x.toList with
            | false =>
              have HBAD := Lib.hid (hbadk (by unfold badN lessB; rw [hgd, hk1, hv1, hgp]; simp only; rw [hls]; simp; omega))
              clear hk1 hv1 hgd hsx hq0 hq1 hbadk hnext hcell hp hk0 hpp hqp hgp
              go_wp2_with fail
              refine wp_region_mixK (List.range 25) Ext ExtR ExtT (by kernel_rfl) (by kernel_rfl) (by kernel_rfl) ?_
              simp only [List.range, List.range.loop]
              iterate 1 (refine mixk_pure _ rfl (by kernel_rfl) rfl rfl (fun K hK => ?_); go_big_quiet_op; refine hK _ ?_; clear hK K)
              refine mixk_load ⟨wr.heap.size, 0, none⟩ _ rfl (by kernel_rfl) rfl rfl (fun w2 h2 => run_load_plain Tryz.uStr rfl (cell_ext (by exact Q0.out) h2)) ?_
              simp only [Act.put, List.setIfInBounds_toArray, List.set_cons_zero, List.set_cons_succ]
              refine mixk_call _ 65 #[.string x] (.bool true) rfl (by kernel_rfl) rfl (fun w1 => exec_call Tryz.enterKeyed (by kernel_rfl)) (fun w1 h1 => (keyed_c w1 x (by have := HSX.out; omega)).mono (fun e w2 ⟨h1, h2⟩ => ⟨by rw [h1, HK.out], h2 ▸ ExtR w1⟩)) ?_
              simp only [Act.put, List.setIfInBounds_toArray, List.set_cons_zero, List.set_cons_succ]
              iterate 3 (refine mixk_pure _ rfl (by kernel_rfl) rfl rfl (fun K hK => ?_); go_big_quiet_op; refine hK _ ?_; clear hK K)
              refine mixk_load ⟨wr.heap.size, 1, none⟩ _ rfl (by kernel_rfl) rfl rfl (fun w2 h2 => run_load_plain Tryz.uStr rfl (cell_ext (by exact Q1.out) h2)) ?_
              simp only [Act.put, List.setIfInBounds_toArray, List.set_cons_zero, List.set_cons_succ]
              refine mixk_call _ 66 #[.string y] (.bool true) rfl (by kernel_rfl) rfl (fun w1 => exec_call Tryz.enterValued (by kernel_rfl)) (fun w1 h1 => (valued_c w1 y (by have := HSY.out; omega)).mono (fun e w2 ⟨h1, h2⟩ => ⟨by rw [h1, HVV.out], h2 ▸ ExtR w1⟩)) ?_
              simp only [Act.put, List.setIfInBounds_toArray, List.set_cons_zero, List.set_cons_succ]
              iterate 11 (refine mixk_pure _ rfl (by kernel_rfl) rfl rfl (fun K hK => ?_); go_big_quiet_op; refine hK _ ?_; clear hK K)
              refine mixk_load ⟨b, o + (k - 1) * 2, none⟩ _ rfl (by kernel_rfl) rfl rfl (fun w2 h2 => run_load_plain Tryz.uStr rfl (cell_ext (by exact QP.out) h2)) ?_
              simp only [Act.put, List.setIfInBounds_toArray, List.set_cons_zero, List.set_cons_succ]
              iterate 1 (refine mixk_pure _ rfl (by kernel_rfl) rfl rfl (fun K hK => ?_); go_big_quiet_op; refine hK _ ?_; clear hK K)
              refine mixk_load ⟨wr.heap.size, 0, none⟩ _ rfl (by kernel_rfl) rfl rfl (fun w2 h2 => run_load_plain Tryz.uStr rfl (cell_ext (by exact Q0.out) h2)) ?_
              simp only [Act.put, List.setIfInBounds_toArray, List.set_cons_zero, List.set_cons_succ]
              iterate 3 (refine mixk_pure _ rfl (by kernel_rfl) rfl rfl (fun K hK => ?_); go_big_quiet_op; refine hK _ ?_; clear hK K)
              refine mixk_end (by kernel_rfl) (fun w3 he => ?_)
              have HE3 := Lib.hid (((HE.out.alloc _).trans (drewE _)).trans he)
              clear he
              go_wp2_with fail
              go_ret
              exact ⟨by rw [HBAD.out]; rfl, HE3.out⟩
            | true =>
              have HNEXT := Lib.hid (hnext (by unfold badN lessB; rw [hgd, hk1, hv1, hgp]; simp only; rw [hls]; simp))
              clear hk1 hv1 hgd hsx hq0 hq1 hbadk hnext hcell hp hk0 hpp hqp hgp
              go_wp2_with fail
              refine wp_region_mixK (List.range 25) Ext ExtR ExtT (by kernel_rfl) (by kernel_rfl) (by kernel_rfl) ?_
              simp only [List.range, List.range.loop]
              iterate 1 (refine mixk_pure _ rfl (by kernel_rfl) rfl rfl (fun K hK => ?_); go_big_quiet_op; refine hK _ ?_; clear hK K)
              refine mixk_load ⟨wr.heap.size, 0, none⟩ _ rfl (by kernel_rfl) rfl rfl (fun w2 h2 => run_load_plain Tryz.uStr rfl (cell_ext (by exact Q0.out) h2)) ?_
              simp only [Act.put, List.setIfInBounds_toArray, List.set_cons_zero, List.set_cons_succ]
              refine mixk_call _ 65 #[.string x] (.bool true) rfl (by kernel_rfl) rfl (fun w1 => exec_call Tryz.enterKeyed (by kernel_rfl)) (fun w1 h1 => (keyed_c w1 x (by have := HSX.out; omega)).mono (fun e w2 ⟨h1, h2⟩ => ⟨by rw [h1, HK.out], h2 ▸ ExtR w1⟩)) ?_
              simp only [Act.put, List.setIfInBounds_toArray, List.set_cons_zero, List.set_cons_succ]
              iterate 3 (refine mixk_pure _ rfl (by kernel_rfl) rfl rfl (fun K hK => ?_); go_big_quiet_op; refine hK _ ?_; clear hK K)
              refine mixk_load ⟨wr.heap.size, 1, none⟩ _ rfl (by kernel_rfl) rfl rfl (fun w2 h2 => run_load_plain Tryz.uStr rfl (cell_ext (by exact Q1.out) h2)) ?_
              simp only [Act.put, List.setIfInBounds_toArray, List.set_cons_zero, List.set_cons_succ]
              refine mixk_call _ 66 #[.string y] (.bool true) rfl (by kernel_rfl) rfl (fun w1 => exec_call Tryz.enterValued (by kernel_rfl)) (fun w1 h1 => (valued_c w1 y (by have := HSY.out; omega)).mono (fun e w2 ⟨h1, h2⟩ => ⟨by rw [h1, HVV.out], h2 ▸ ExtR w1⟩)) ?_
              simp only [Act.put, List.setIfInBounds_toArray, List.set_cons_zero, List.set_cons_succ]
              iterate 11 (refine mixk_pure _ rfl (by kernel_rfl) rfl rfl (fun K hK => ?_); go_big_quiet_op; refine hK _ ?_; clear hK K)
              refine mixk_load ⟨b, o + (k - 1) * 2, none⟩ _ rfl (by kernel_rfl) rfl rfl (fun w2 h2 => run_load_plain Tryz.uStr rfl (cell_ext (by exact QP.out) h2)) ?_
              simp only [Act.put, List.setIfInBounds_toArray, List.set_cons_zero, List.set_cons_succ]
              iterate 1 (refine mixk_pure _ rfl (by kernel_rfl) rfl rfl (fun K hK => ?_); go_big_quiet_op; refine hK _ ?_; clear hK K)
              refine mixk_load ⟨wr.heap.size, 0, none⟩ _ rfl (by kernel_rfl) rfl rfl (fun w2 h2 => run_load_plain Tryz.uStr rfl (cell_ext (by exact Q0.out) h2)) ?_
              simp only [Act.put, List.setIfInBounds_toArray, List.set_cons_zero, List.set_cons_succ]
              iterate 3 (refine mixk_pure _ rfl (by kernel_rfl) rfl rfl (fun K hK => ?_); go_big_quiet_op; refine hK _ ?_; clear hK K)
              refine mixk_end (by kernel_rfl) (fun w3 he => ?_)
              have HE3 := Lib.hid (((HE.out.alloc _).trans (drewE _)).trans he)
              clear he
              go_wp2_with fail
              go_roundw
              case rel => exact ⟨k + 1, by omega, by go_num, HE3.out, HNEXT.out⟩
              case measure => simp [intOf]; omega
    · have hkl : k = l.length := by omega
      subst hkl
      by_cases h40 : 40 < l.length
      · have c4 : (40 : Int) < (l.length : Int) := by omega
        have e : checkN l = 12 := by unfold checkN; rw [if_neg (by rw [HALL.out]; simp), if_pos h40]
        have E := Lib.hid e
        clear e
        go_wp2_with fail
        go_ret
        exact ⟨by rw [E.out]; rfl, HE.out⟩
      · have c4 : ¬ (40 : Int) < (l.length : Int) := by omega
        have e : checkN l = 0 := by unfold checkN; rw [if_neg (by rw [HALL.out]; simp), if_neg h40]
        have E := Lib.hid e
        clear e
        go_wp2_with fail
        go_ret
        exact ⟨by rw [E.out]; rfl, HE.out⟩
end
end Go.Proofs.YtneojlgbcaejmaaGreatDoor
/- The law for regions that draw their order: E is what quiet operations keep, D (weaker) what all keep; what is known along D stays known. Over any program. -/
namespace Go.Proofs.YtneojlgbcaejmaaGreatDoor
section
open Go Go.RowKit
set_option linter.unusedSimpArgs false
set_option linter.unusedVariables false

section mixd
variable {P : Program} {l : List Oper} {E D : World → World → Prop}
def YieldsD (P : Program) (ops : Array Oper) (E D : World → World → Prop) (w : World) (o : Oper) (v : Value) (a : Act) : Prop :=
  (Region.wanted o (yielded ops a.tmps) = true ∧ ∀ w1, D w w1 → qUpon P E w1 v ((execOp a.eval o).run P w1)) ∨ (Region.wanted o (yielded ops a.tmps) = false ∧ v = undef)
theorem YieldsD.of_same {ops : Array Oper} {w : World} {o : Oper} {v : Value} {a a' : Act} (hy : YieldsD P ops E D w o v a) (he : execOp a'.eval o = execOp a.eval o)
    (hw : Region.wanted o (yielded ops a'.tmps) = Region.wanted o (yielded ops a.tmps)) : YieldsD P ops E D w o v a' := by
  unfold YieldsD at *; rw [he, hw]; exact hy
theorem YieldsD.st (hT : ∀ x y z, D x y → D y z → D x z) {ops : Array Oper} {w w1 : World} {o : Oper} {v : Value} {a : Act} (hy : YieldsD P ops E D w o v a) (h : D w w1) : YieldsD P ops E D w1 o v a :=
  hy.imp (fun ⟨h1, h2⟩ => ⟨h1, fun w2 h' => h2 w2 (hT _ _ _ h h')⟩) id
theorem YieldsD.wpOp {ops : Array Oper} {i : Nat} {o : Oper} {v : Value} {a : Act} {w : World} (hi : ops[i]? = some o) (hy : YieldsD P ops E D w o v a) {K : Act → World → Prop} {w1 : World} (h1 : D w w1) (hE : ∀ w, E w w)
    (h : ∀ w', E w1 w' → K (a.put o.dst v) w') : wpOp P ops NoQ i K a w1 := by
  unfold Go.wpOp
  simp only [hi]
  rcases hy with ⟨hw, hv⟩ | ⟨hw, rfl⟩
  · simp only [hw, if_true]
    refine .inl ?_
    have h3 := hv w1 h1
    unfold Oper.wp
    generalize (execOp a.eval o).run P w1 = r at *
    cases r with
    | ok n w' =>
      cases n <;> simp only [qUpon] at h3 <;> simp only [Oper.upon]
      case value u => obtain ⟨e1, e2⟩ := h3; rw [e1, e2]; exact h _ (hE w1)
      case skip => obtain ⟨e1, e2⟩ := h3; rw [e1, ← e2]; exact h _ (hE w1)
      case enter f args =>
        obtain ⟨e1, hcc⟩ := h3; rw [e1]
        exact hcc.mono fun e w'' ⟨he, h1⟩ => by subst he; exact h _ h1
    | halt x w' => simp only [qUpon] at h3
  · simp only [hw, Bool.false_eq_true, if_false]; exact h _ (hE w1)

def anyD (P : Program) (ops : Array Oper) (hd : List Nat) (E D : World → World → Prop) (Q : Act → World → Prop) : Nat → Array Bool → Act → World → Prop
  | 0, listed, a, w => ∀ w1, E w w1 → Region.ready .any ops listed = [] ∧ Q a w1
  | fuel + 1, listed, a, w => ∀ w1, E w w1 →
    (Region.ready .any ops listed = [] → Q a w1) ∧
    ∀ i ∈ Region.ready .any ops listed, wpOp P ops NoQ i (fun a' w' => D w1 w' ∧ (i ∉ hd → E w1 w') ∧ anyD P ops hd E D Q fuel (listed.setIfInBounds i true) a' w') a w1

theorem anyD_st (hT : ∀ x y z, E x y → E y z → E x z) {ops : Array Oper} {hd : List Nat} {Q : Act → World → Prop} : ∀ (fuel : Nat) (listed : Array Bool) (a : Act) (w w1 : World), anyD P ops hd E D Q fuel listed a w → E w w1 → anyD P ops hd E D Q fuel listed a w1
  | 0, _, _, _, _, h, he => fun w2 h2 => h w2 (hT _ _ _ he h2)
  | _ + 1, _, _, _, _, h, he => fun w2 h2 => h w2 (hT _ _ _ he h2)

theorem anyD_sound (hE : ∀ w, E w w) {ops : Array Oper} {hd : List Nat} {Q : Act → World → Prop} {Q' : Exit → Act → World → Prop} (hQ : ∀ a w, Q a w → Q' .normal a w) :
    ∀ (fuel : Nat) (listed : Array Bool) (a : Act) (w : World), anyD P ops hd E D Q fuel listed a w → wpAny P .any ops Q' fuel listed a w
  | 0, _, _, w, h => let ⟨h1, h2⟩ := h w (hE w); ⟨h1, hQ _ _ h2⟩
  | fuel + 1, _, _, w, h => let ⟨h1, h2⟩ := h w (hE w)
    ⟨fun h0 => hQ _ _ (h1 h0), fun i hi => wpOp_noQ (fun a' w' ⟨_, _, h'⟩ => anyD_sound hE hQ fuel _ a' w' h') (h2 i hi)⟩

theorem anyD_first (hE : ∀ w, E w w) (hT : ∀ x y z, E x y → E y z → E x z) (hD : ∀ x y z, D x y → D y z → D x z) (hED : ∀ x y, E x y → D x y) {ops : Array Oper} {hd : List Nat} {Q : Act → World → Prop} {i : Nat} {oi : Oper} {v : Value} (hi : ops[i]? = some oi) (hsel : ∀ (j : Nat) (o : Oper) cs b, ops[j]? = some o → o.op ≠ .select cs b) :
    ∀ (fuel : Nat) (listed : Array Bool) (a : Act) (w : World),
      (∀ j oj, ops[j]? = some oj → j ≠ i → listed.getD j true = false → (∀ e ∈ oj.after, Region.binds .any e = true → e.on ≠ i) → oi.apart ops oj = true) →
      i ∈ Region.ready .any ops listed → YieldsD P ops E D w oi v a →
      anyD P ops hd E D Q fuel (listed.setIfInBounds i true) (a.put oi.dst v) w → anyD P ops hd E D Q (fuel + 1) listed a w := by
  intro fuel
  induction fuel with
  | zero =>
    intro listed a w _ hr hy H w1 he
    refine ⟨fun h => (by rw [h] at hr; cases hr), fun j hj => ?_⟩
    by_cases hji : j = i
    · subst hji; exact hy.wpOp hi (hED _ _ he) hE (fun w' h1 => ⟨hED _ _ h1, fun _ => h1, anyD_st hT _ _ _ _ _ H (hT _ _ _ he h1)⟩)
    · have := ready_mono hj hji
      rw [(H w1 he).1] at this
      cases this
  | succ fuel ih =>
    intro listed a w hfree hr hy H w1 he
    refine ⟨fun h => (by rw [h] at hr; cases hr), fun j hj => ?_⟩
    by_cases hji : j = i
    · subst hji; exact hy.wpOp hi (hED _ _ he) hE (fun w' h1 => ⟨hED _ _ h1, fun _ => h1, anyD_st hT _ _ _ _ _ H (hT _ _ _ he h1)⟩)
    · have h1 := (H w1 he).2 j (ready_mono hj hji)
      obtain ⟨hjun, oj, hoj, hall⟩ := mem_ready.1 hj
      have hnot : ∀ e ∈ oj.after, Region.binds .any e = true → e.on ≠ i := fun e he hb heq => by
        have h1 := hall e he hb
        have h0 := (mem_ready.1 hr).1
        rw [heq] at h1
        rcases Nat.lt_or_ge i listed.size with h' | h'
        · simp [h'] at h0 h1; rw [h0] at h1; cases h1
        · simp [Array.getElem?_eq_none h'] at h1
      have h2 := wpOp_putE (v := v) (Y := fun a' => execOp a'.eval oi = execOp a.eval oi ∧ Region.wanted oi (yielded ops a'.tmps) = Region.wanted oi (yielded ops a.tmps)) hoj (hfree j oj hoj hji hjun hnot) (fun cs b => hsel i oi cs b hi) (fun cs b => hsel j oj cs b hoj)
        (fun a1 a2 h e1 e2 => ⟨e1.trans h.1, e2.trans h.2⟩) ⟨rfl, rfl⟩ h1
      have hfree' : ∀ k ok, ops[k]? = some ok → k ≠ i → (listed.setIfInBounds j true).getD k true = false →
          (∀ e ∈ ok.after, Region.binds .any e = true → e.on ≠ i) → oi.apart ops ok = true := fun k ok hk hki hun hno => by
        refine hfree k ok hk hki ?_ hno
        by_cases hjk : j = k
        · subst hjk; exact hjun
        · rw [getD_set_ne true hjk] at hun; exact hun
      refine wpOp_mono (fun a' w' h3 => ⟨h3.2.1, h3.2.2.1, ?_⟩) h2
      obtain ⟨⟨e1, e2⟩, h4, _, h5⟩ := h3
      have hyn : YieldsD P ops E D w' oi v a' := (hy.of_same e1 e2).st hD (hD _ _ _ (hED _ _ he) h4)
      refine ih (listed.setIfInBounds j true) a' w' hfree' (ready_mono hr (Ne.symm hji)) hyn ?_
      rw [Array.setIfInBounds_comm _ _ hji]
      exact h5

/-- The walk in an order of one's own: 'ord' what is still to come, 'done' what has been. -/
def MixD (P : Program) (l : List Oper) (hd : List Nat) (E D : World → World → Prop) (Q : Act → World → Prop) : List Nat → List Nat → Act → World → Prop
  | [], done, a, w => ∀ w1, E w w1 → Region.ready .any l.toArray (marks l done) = [] ∧ Q a w1
  | k :: ord, done, a, w =>
    (k ∈ Region.ready .any l.toArray (marks l done) ∧ Region.free .any l.toArray (marks l done) k = true ∧ ∃ o v, l[k]? = some o ∧ YieldsD P l.toArray E D w o v a ∧ MixD P l hd E D Q ord (k :: done) (a.put o.dst v) w) ∨
    (Region.ready .any l.toArray (marks l done) = [k] ∧ k ∈ hd ∧ ∀ w1, E w w1 → wpOp P l.toArray NoQ k (fun a' w' => D w1 w' ∧ MixD P l hd E D Q ord (k :: done) a' w') a w1)

theorem anyD_of_mix (hE : ∀ w, E w w) (hT : ∀ x y z, E x y → E y z → E x z) (hD : ∀ x y z, D x y → D y z → D x z) (hED : ∀ x y, E x y → D x y) (hs : Region.noSelect l.toArray = true) {hd : List Nat} {Q : Act → World → Prop} : ∀ (ord : List Nat) (done : List Nat) (a : Act) (w : World),
    MixD P l hd E D Q ord done a w → anyD P l.toArray hd E D Q ord.length (marks l done) a w
  | [], _, _, _, h => h
  | k :: ord, done, a, w, h => by
    rcases h with ⟨hr, hf, o, v, ho, hy, h⟩ | ⟨hr, hk, h⟩
    · have ho' : l.toArray[k]? = some o := by simpa using ho
      exact anyD_first hE hT hD hED ho' (Region.noSelect_spec hs) ord.length (marks l done) a w (Region.free_spec ho' hf) hr hy (anyD_of_mix hE hT hD hED hs ord _ _ _ h)
    · intro w1 he
      refine ⟨fun h0 => (by rw [hr] at h0; cases h0), fun i hi => ?_⟩
      rw [hr] at hi
      obtain rfl : i = k := by simpa using hi
      exact wpOp_mono (fun a' w' h2 => ⟨h2.1, fun hn => absurd hk hn, anyD_of_mix hE hT hD hED hs ord _ _ _ h2.2⟩) (h w1 he)

theorem wp_region_mixD (ord hd : List Nat) (E D : World → World → Prop) (hE : ∀ w, E w w) (hT : ∀ x y z, E x y → E y z → E x z) (hD : ∀ x y z, D x y → D y z → D x z) (hED : ∀ x y, E x y → D x y) {id : Nat} {Q : Exit → Act → World → Prop} {a : Act} {w : World}
    (hm : P.follows .mixedOrders = true) (hs : Region.noSelect l.toArray = true) (hl : ord.length = l.toArray.size)
    (h : MixD P l hd E D (fun a w => Q .normal a w) ord [] a w.drew) : (Code.region id l.toArray true).wp P Q a w := by
  refine wp_region_any hm ?_
  rw [← hl]
  have := anyD_of_mix hE hT hD hED hs ord _ _ _ h
  unfold marks at this
  rw [hl] at this ⊢
  exact anyD_sound hE (fun _ _ h => h) _ _ _ _ this

/-! The steps. -/
variable {Q : Act → World → Prop} {ord done hd : List Nat} {a : Act} {w : World} {k : Nat} {o : Oper}
def headD (l : List Oper) (done : List Nat) (k : Nat) : Bool := (Region.ready .any l.toArray (marks l done)).contains k && Region.free .any l.toArray (marks l done) k
def aloneD (l : List Oper) (hd done : List Nat) (k : Nat) : Bool := Region.ready .any l.toArray (marks l done) == [k] && hd.contains k

theorem mixd_pure (o : Oper) (ho : l[k]? = some o) (hk : headD l done k = true) (hw : Region.wanted o (yielded l.toArray a.tmps) = true) (hq : isPure o.op = true)
    (h : ∀ K : Act → Prop, (∀ a', MixD P l hd E D Q ord (k :: done) a' w → K a') → o.quiet P a (fun _ => True) K) : MixD P l hd E D Q (k :: ord) done a w := by
  simp only [headD, Bool.and_eq_true, List.contains_iff_mem] at hk
  obtain ⟨v, h1, h2⟩ := h _ (fun _ h => h)
  have key : YieldsD P l.toArray E D w o v a := by
    refine .inl ⟨hw, fun w1 _ => ?_⟩
    have h3 := h1 w1 trivial
    unfold Oper.quietAt at h3
    have h4 := fun f args w' => pure_no (ρ := a.eval) hq P w1 w' f args
    generalize (execOp a.eval o).run P w1 = r at *
    cases r with
    | ok n w' => cases n <;> simp only [Oper.quietUpon] at h3 <;> first | exact h3 | exact absurd rfl (h4 _ _ _)
    | halt x w' => simp only [Oper.quietUpon] at h3
  exact .inl ⟨hk.1, hk.2, o, v, ho, key, h2⟩

theorem mixd_val (o : Oper) (v : Value) (ho : l[k]? = some o) (hk : headD l done k = true) (hw : Region.wanted o (yielded l.toArray a.tmps) = true)
    (hv : ∀ w1, D w w1 → (execOp a.eval o).run P w1 = .ok (.value v) w1) (h : MixD P l hd E D Q ord (k :: done) (a.put o.dst v) w) : MixD P l hd E D Q (k :: ord) done a w := by
  simp only [headD, Bool.and_eq_true, List.contains_iff_mem] at hk
  exact .inl ⟨hk.1, hk.2, o, v, ho, .inl ⟨hw, fun w1 hc => by rw [hv w1 hc]; exact ⟨rfl, rfl⟩⟩, h⟩

theorem mixd_load (p : Addr) (v : Value) {t : TypeId} {x : Operand} {d : Option Tmp} {ty : TypeId} {pos : String} {af : Array Edge} {g : Option (Nat × Bool)} (ho : l[k]? = some ⟨d, .load t x, ty, pos, af, g⟩) (hk : headD l done k = true)
    (hw : Region.wanted ⟨d, .load t x, ty, pos, af, g⟩ (yielded l.toArray a.tmps) = true) (hx : a.eval x = .pointer (some p))
    (hv : ∀ w1, D w w1 → (Instr.loadAt t (.pointer (some p))).run P w1 = .ok v w1) (h : MixD P l hd E D Q ord (k :: done) (a.put d v) w) : MixD P l hd E D Q (k :: ord) done a w := by
  refine mixd_val _ v ho hk hw (fun w1 hc => ?_) h
  have := hv w1 hc
  simp only [execOp, hx, Sem.run_bind, this, Result.andThen, Sem.run_pure]

theorem mixd_skip (o : Oper) (ho : l[k]? = some o) (hk : headD l done k = true) (hw : Region.wanted o (yielded l.toArray a.tmps) = false)
    (h : MixD P l hd E D Q ord (k :: done) (a.put o.dst undef) w) : MixD P l hd E D Q (k :: ord) done a w := by
  simp only [headD, Bool.and_eq_true, List.contains_iff_mem] at hk
  exact .inl ⟨hk.1, hk.2, o, undef, ho, .inr ⟨hw, rfl⟩, h⟩

theorem mixd_call (o : Oper) (f : FuncId) (args : Array Value) (v : Value) (ho : l[k]? = some o) (hk : headD l done k = true) (hw : Region.wanted o (yielded l.toArray a.tmps) = true)
    (hv : ∀ w1, (execOp a.eval o).run P w1 = .ok (.enter f args) w1) (hc : ∀ w1, D w w1 → Calls P f args w1 (fun e w2 => e = .returned v ∧ E w1 w2))
    (h : MixD P l hd E D Q ord (k :: done) (a.put o.dst v) w) : MixD P l hd E D Q (k :: ord) done a w := by
  simp only [headD, Bool.and_eq_true, List.contains_iff_mem] at hk
  exact .inl ⟨hk.1, hk.2, o, v, ho, .inl ⟨hw, fun w1 hw1 => by rw [hv w1]; exact ⟨rfl, hc w1 hw1⟩⟩, h⟩

/-- An operation that stands alone. -/
theorem mixd_hard (o : Oper) (ho : l[k]? = some o) (hk : aloneD l hd done k = true) (hw : Region.wanted o (yielded l.toArray a.tmps) = true)
    (h : ∀ w1, E w w1 → ∀ K : Act → World → Prop, (∀ a' w', D w1 w' → MixD P l hd E D Q ord (k :: done) a' w' → K a' w') → o.wp P a w1 K NoQ) : MixD P l hd E D Q (k :: ord) done a w := by
  simp only [aloneD, Bool.and_eq_true, beq_iff_eq, List.contains_iff_mem] at hk
  refine .inr ⟨hk.1, hk.2, fun w1 he => ?_⟩
  unfold wpOp
  have ho' : l.toArray[k]? = some o := by simpa using ho
  simp only [ho', hw, if_true]
  exact .inl (h w1 he _ (fun _ _ h1 h2 => ⟨h1, h2⟩))

theorem mixd_end (hk : (Region.ready .any l.toArray (marks l done)).isEmpty = true) (h : ∀ w1, E w w1 → Q a w1) : MixD P l hd E D Q [] done a w :=
  fun w1 he => ⟨by simpa using hk, h w1 he⟩
end mixd
end
end Go.Proofs.YtneojlgbcaejmaaGreatDoor
/- canon: rows, without. -/
namespace Go.Proofs.YtneojlgbcaejmaaGreatDoor
section
open Go Go.RowKit
set_option linter.unusedSimpArgs false
set_option linter.unusedVariables false
def cellsP (xs : List Pair) : List Value := xs.flatMap fun p => [.string p.1, .string p.2]
theorem cellsP_len (xs : List Pair) : (cellsP xs).length = xs.length * 2 := by
  induction xs with
  | nil => rfl
  | cons x r ih => unfold cellsP at *; rw [List.flatMap_cons, List.length_append, ih]; simp; omega
theorem cellsP_append (xs ys : List Pair) : cellsP (xs ++ ys) = cellsP xs ++ cellsP ys := by simp [cellsP]
theorem cellsP_get : ∀ (xs : List Pair) (j : Nat) (p : Pair), xs[j]? = some p → (cellsP xs)[j * 2]? = some (.string p.1) ∧ (cellsP xs)[j * 2 + 1]? = some (.string p.2)
  | [], j, p, h => by simp at h
  | x :: r, 0, p, h => by simp at h; subst h; exact ⟨rfl, rfl⟩
  | x :: r, j + 1, p, h => by
    have := cellsP_get r j p (by simpa using h)
    rw [show (j + 1) * 2 = j * 2 + 1 + 1 by omega]
    exact this
theorem Tryz.uRows : Tryz.prog.underlying 98 = some (.slice 127) := by kernel_rfl
theorem Tryz.infoRow : (Tryz.prog.info? 127).map (fun i => (i.zero, i.size, i.bytes)) = some (some (.agg #[.string ⟨#[]⟩, .string ⟨#[]⟩]), 2, 32) := by kernel_rfl
theorem Tryz.sRows : SInfo Tryz.prog 98 127 2 32 := SInfo.mk' Tryz.uRows Tryz.infoRow rfl (by decide)
abbrev PRow (w0 w : World) (v : Value) (n : Nat) (xs : List Pair) : Prop := ORow 127 2 w0 w v n (cellsP xs)
theorem PRow.rd {w0 w : World} {v : Value} {n : Nat} {xs : List Pair} (h : PRow w0 w v n xs) : RdP w v xs := by
  have hl : xs.length = n := by have := h.len; rw [cellsP_len] at this; omega
  obtain ⟨_, ⟨rfl, h2⟩ | ⟨g, cap, cur, rfl, h3, h4, h5, h6, h7⟩⟩ := h.own
  · exact .inl ⟨none, 0, rfl, List.eq_nil_of_length_eq_zero (by omega)⟩
  · subst hl
    refine .inr ⟨g, 0, cap, rfl, (Array.getElem?_eq_some_iff.1 h4).1, h5, fun j x hx => ?_⟩
    have hj := (List.getElem?_eq_some_iff.1 hx).1
    obtain ⟨e1, e2⟩ := cellsP_get xs j x hx
    exact ⟨by rw [Nat.zero_add, h.own.cellAt (j * 2) (by omega), e1], by rw [Nat.zero_add, h.own.cellAt (j * 2 + 1) (by omega), e2]⟩
theorem Tryz.enterPath : ∀ args w, (callFunc 41 args).run Tryz.prog w = .ok (.enter 41 args) w := fun _ _ => by kernel_rfl
def rowsL (l : List Pair) : List Pair := l.map fun p => (pathB p.1, p.2)
def RowsRel (w : World) (l : List Pair) (v i : Value) (wr : World) : Prop := ∃ k : Nat, k ≤ l.length ∧ i = .int .i64 k ∧ PRow w wr v k ((rowsL l).take k)
theorem ownNe {w : World} {T : TypeId} {sz : Nat} {w0 : World} {v : Value} {n : Nat} {xs : List Value} (h : ORow T sz w0 w v n xs) : ¬ v.ownBlock = some w.heap.size := fun e => by have := h.lt _ e; omega
set_option maxRecDepth 100000 in
set_option maxHeartbeats 4000000 in
theorem rows_c (w : World) (v : Value) (l : List Pair) (hv : RdP w v l) (hn : l.length ≤ 1000000) (hs : ∀ p ∈ l, p.1.size ≤ 1000000) : Calls Tryz.prog 50 #[v] w fun e w' => ∃ u, e = .returned u ∧ PRow w w' u l.length (rowsL l) := by
  obtain ⟨a, c, hsl⟩ := hv.sl
  have HV := Lib.hid hv
  have HS := Lib.hid hs
  subst hsl
  clear hv hs
  obtain ⟨i0, hi, hz0, hz1, hz2⟩ := info_parts Tryz.infoRow
  obtain ⟨w1, hmk0, hown, hgr⟩ := run_make_own (P := Tryz.prog) (w := w) w.heap.size 98 127 i0 _ 2 Tryz.uRows hi hz0 hz1 .i64 .i64 l.length (by rw [hz2]; omega) (by unfold maxLen; omega) (Nat.le_refl _)
  have HO := Lib.hid hown
  have HG := Lib.hid hgr
  clear hown hgr
  go_enter Tryz.func50, Tryz.ntmps50
  go_wp2_with fail
  go_loopw [3, 11] (fun v i wr => RowsRel w l v i wr) (fun _ i _ => l.length - (intOf i).toNat)
  case atStart => exact ⟨0, Nat.zero_le _, rfl, ORow.made w HO.out HG.out⟩
  case round =>
    obtain ⟨k, hk, rfl, hR⟩ := hrel
    obtain ⟨a2, c2, rfl⟩ := hR.sl
    have HR := Lib.hid hR
    clear hR
    by_cases hlt : k < l.length
    · rcases HV.out with ⟨_, _, _, h0⟩ | ⟨b, o, c', hh, hb, hc, hcell⟩
      · rw [h0] at hlt; cases hlt
      cases hh
      obtain ⟨p, hp⟩ : ∃ p, l[k]? = some p := ⟨_, List.getElem?_eq_getElem hlt⟩
      obtain ⟨q1, q2⟩ := hcell k p hp
      have q1 := cell_ext q1 HR.out.ext
      have q2 := cell_ext q2 HR.out.ext
      have hsp := HS.out p (List.mem_of_getElem? hp)
      obtain ⟨x, y⟩ := p
      simp only at q1 q2 hsp
      have b1 : (k : Int) < (l.length : Int) := by omega
      have hrl : (rowsL l).take (k + 1) = (rowsL l).take k ++ [(pathB x, y)] := by
        rw [List.take_add_one]; unfold rowsL; rw [List.getElem?_map, hp]; rfl
      have HRL := Lib.hid hrl
      have HSP := Lib.hid hsp
      have Q0 := Lib.hid (show (wr.alloc (.cells #[.string x, .string y] 45)).cell? ⟨wr.heap.size, 0, none⟩ = some (.string x) from (Blk.new wr _).cell (by rfl))
      have Q1 := Lib.hid (show (wr.alloc (.cells #[.string x, .string y] 45)).cell? ⟨wr.heap.size, 1, none⟩ = some (.string y) from (Blk.new wr _).cell (by rfl))
      have NB := Lib.hid (ownNe HR.out)
      clear hcell hp hsp hrl
      go_wp2_with fail
      refine wp_region_mixD [0,1,2,3,4,5,6,7,8,9] [7,8] Ext (Keeps (fun b => (Value.slice a2 k c2).ownBlock = some b)) ExtR ExtT (fun x y z h k => Keeps.trans h k) (fun x y h => h.mono (fun _ _ h => h.elim)) (by kernel_rfl) (by kernel_rfl) (by kernel_rfl) ?_
      iterate 2 (refine mixd_pure _ rfl (by kernel_rfl) rfl rfl (fun K hK => ?_); go_big_quiet_op; refine hK _ ?_; clear hK K)
      refine mixd_load ⟨wr.heap.size, 0, none⟩ _ rfl (by kernel_rfl) rfl rfl (fun w2 h2 => run_load_plain Tryz.uStr rfl (cell_keeps (by exact Q0.out) h2 NB.out)) ?_
      simp only [Act.put, List.setIfInBounds_toArray, List.set_cons_zero, List.set_cons_succ]
      refine mixd_call _ 41 #[.string x] (.string (pathB x)) rfl (by kernel_rfl) rfl (fun w1 => exec_call Tryz.enterPath (by kernel_rfl)) (fun w1 h1 => path_c w1 x HSP.out) ?_
      simp only [Act.put, List.setIfInBounds_toArray, List.set_cons_zero, List.set_cons_succ]
      iterate 1 (refine mixd_pure _ rfl (by kernel_rfl) rfl rfl (fun K hK => ?_); go_big_quiet_op; refine hK _ ?_; clear hK K)
      refine mixd_load ⟨wr.heap.size, 1, none⟩ _ rfl (by kernel_rfl) rfl rfl (fun w2 h2 => run_load_plain Tryz.uStr rfl (cell_keeps (by exact Q1.out) h2 NB.out)) ?_
      simp only [Act.put, List.setIfInBounds_toArray, List.set_cons_zero, List.set_cons_succ]
      iterate 1 (refine mixd_pure _ rfl (by kernel_rfl) rfl rfl (fun K hK => ?_); go_big_quiet_op; refine hK _ ?_; clear hK K)
      refine mixd_hard _ rfl (by kernel_rfl) rfl (fun w2 he K hK => ?_)
      have HR2 := Lib.hid (HR.out.mono ((((ExtR wr).alloc _).trans (drewE _)).trans he))
      clear he HR
      go_simp
      refine hK _ _ ((Keeps.refl _ w2).alloc _) ?_
      clear hK K
      refine mixd_hard _ rfl (by kernel_rfl) rfl (fun w3 he K hK => ?_)
      have HR3 := Lib.hid (HR2.out.mono (((ExtR w2).alloc _).trans he))
      have hB : ∀ j u, ([.string (pathB x), .string y] : List Value)[j]? = some u → w3.cell? ((⟨w2.heap.size, 0, none⟩ : Addr).add j) = some u := fun j u hj => cell_ext (news_blk (Blk.new w2 (.cells [Value.string (pathB x), .string y].toArray 127)) j u hj) he
      refine wp_app Tryz.sRows HR3.out (.tmp 15) (.tmp 22) rfl rfl hB (by intro u hu; simp at hu; rcases hu with rfl | rfl <;> rfl) rfl rfl (by unfold maxLen; omega) (by omega) (fun v' w4 r1 r2 r3 => hK _ _ r2 ?_)
      have r1' : PRow w w4 v' (k + 1) ((rowsL l).take (k + 1)) := by
        unfold PRow; rw [HRL.out, cellsP_append]; exact r1
      have HR4 := Lib.hid r1'
      clear hK K he r1 r2 r3 r1' hB HR2 HR3
      obtain ⟨a4, c4, rfl⟩ := HR4.out.sl
      simp only [Act.put, List.setIfInBounds_toArray, List.set_cons_zero, List.set_cons_succ]
      iterate 1 (refine mixd_pure _ rfl (by kernel_rfl) rfl rfl (fun K hK => ?_); go_big_quiet_op; refine hK _ ?_; clear hK K)
      refine mixd_end (by kernel_rfl) (fun w5 he => ?_)
      have HR5 := Lib.hid (HR4.out.mono he)
      clear he HR4
      go_wp2_with fail
      go_roundw
      case rel => exact ⟨k + 1, by omega, by go_num, HR5.out⟩
      case measure => simp [intOf]; omega
    · have hkl : k = l.length := by omega
      subst hkl
      go_wp2
      go_ret
      have h := HR.out
      rw [List.take_of_length_le (by simp [rowsL])] at h
      exact ⟨_, rfl, h⟩
def dropL (d : Nat) (l : List Pair) : List Pair := l.map fun p => (p.1.extract d p.1.size, p.2)
def DropRel (w : World) (d : Nat) (l : List Pair) (v i : Value) (wr : World) : Prop := ∃ k : Nat, k ≤ l.length ∧ i = .int .i64 k ∧ PRow w wr v k ((dropL d l).take k)
set_option maxRecDepth 100000 in
set_option maxHeartbeats 4000000 in
theorem without_c (w : World) (v : Value) (d : Nat) (l : List Pair) (hv : RdP w v l) (hn : l.length ≤ 1000000) (hs : ∀ p ∈ l, d ≤ p.1.size ∧ p.1.size ≤ 1000000) : Calls Tryz.prog 69 #[v, .int .i64 d] w fun e w' => ∃ u, e = .returned u ∧ PRow w w' u l.length (dropL d l) := by
  obtain ⟨a, c, hsl⟩ := hv.sl
  have HV := Lib.hid hv
  have HS := Lib.hid hs
  subst hsl
  clear hv hs
  obtain ⟨i0, hi, hz0, hz1, hz2⟩ := info_parts Tryz.infoRow
  obtain ⟨w1, hmk0, hown, hgr⟩ := run_make_own (P := Tryz.prog) (w := w) w.heap.size 98 127 i0 _ 2 Tryz.uRows hi hz0 hz1 .i64 .i64 l.length (by rw [hz2]; omega) (by unfold maxLen; omega) (Nat.le_refl _)
  have HO := Lib.hid hown
  have HG := Lib.hid hgr
  clear hown hgr
  go_enter Tryz.func69, Tryz.ntmps69
  go_wp2_with fail
  go_loopw [5, 13] (fun v i wr => DropRel w d l v i wr) (fun _ i _ => l.length - (intOf i).toNat)
  case atStart => exact ⟨0, Nat.zero_le _, rfl, ORow.made w HO.out HG.out⟩
  case round =>
    obtain ⟨k, hk, rfl, hR⟩ := hrel
    obtain ⟨a2, c2, rfl⟩ := hR.sl
    have HR := Lib.hid hR
    clear hR
    by_cases hlt : k < l.length
    · rcases HV.out with ⟨_, _, _, h0⟩ | ⟨b, o, c', hh, hb, hc, hcell⟩
      · rw [h0] at hlt; cases hlt
      cases hh
      obtain ⟨p, hp⟩ : ∃ p, l[k]? = some p := ⟨_, List.getElem?_eq_getElem hlt⟩
      obtain ⟨q1, q2⟩ := hcell k p hp
      have q1 := cell_ext q1 HR.out.ext
      have q2 := cell_ext q2 HR.out.ext
      have hsp := HS.out p (List.mem_of_getElem? hp)
      obtain ⟨x, y⟩ := p
      simp only at q1 q2 hsp
      have b1 : (k : Int) < (l.length : Int) := by omega
      have b2 : (d : Int) ≤ (x.size : Int) := by omega
      have hrl : (dropL d l).take (k + 1) = (dropL d l).take k ++ [(x.extract d x.size, y)] := by
        rw [List.take_add_one]; unfold dropL; rw [List.getElem?_map, hp]; rfl
      have HRL := Lib.hid hrl
      have Q0 := Lib.hid (show (wr.alloc (.cells #[.string x, .string y] 127)).cell? ⟨wr.heap.size, 0, none⟩ = some (.string x) from (Blk.new wr _).cell (by rfl))
      have Q1 := Lib.hid (show (wr.alloc (.cells #[.string x, .string y] 127)).cell? ⟨wr.heap.size, 1, none⟩ = some (.string y) from (Blk.new wr _).cell (by rfl))
      have NB := Lib.hid (ownNe HR.out)
      clear hcell hp hsp hrl
      go_wp2_with fail
      refine wp_region_mixD [0,1,2,3,4,5,6,7,8,9,10] [8,9] Ext (Keeps (fun b => (Value.slice a2 k c2).ownBlock = some b)) ExtR ExtT (fun x y z h k => Keeps.trans h k) (fun x y h => h.mono (fun _ _ h => h.elim)) (by kernel_rfl) (by kernel_rfl) (by kernel_rfl) ?_
      iterate 2 (refine mixd_pure _ rfl (by kernel_rfl) rfl rfl (fun K hK => ?_); go_big_quiet_op; refine hK _ ?_; clear hK K)
      refine mixd_load ⟨wr.heap.size, 0, none⟩ _ rfl (by kernel_rfl) rfl rfl (fun w2 h2 => run_load_plain Tryz.uStr rfl (cell_keeps (by exact Q0.out) h2 NB.out)) ?_
      simp only [Act.put, List.setIfInBounds_toArray, List.set_cons_zero, List.set_cons_succ]
      iterate 3 (refine mixd_pure _ rfl (by kernel_rfl) rfl rfl (fun K hK => ?_); go_big_quiet_op; refine hK _ ?_; clear hK K)
      refine mixd_load ⟨wr.heap.size, 1, none⟩ _ rfl (by kernel_rfl) rfl rfl (fun w2 h2 => run_load_plain Tryz.uStr rfl (cell_keeps (by exact Q1.out) h2 NB.out)) ?_
      simp only [Act.put, List.setIfInBounds_toArray, List.set_cons_zero, List.set_cons_succ]
      iterate 1 (refine mixd_pure _ rfl (by kernel_rfl) rfl rfl (fun K hK => ?_); go_big_quiet_op; refine hK _ ?_; clear hK K)
      refine mixd_hard _ rfl (by kernel_rfl) rfl (fun w2 he K hK => ?_)
      have HR2 := Lib.hid (HR.out.mono ((((ExtR wr).alloc _).trans (drewE _)).trans he))
      clear he HR
      go_simp
      refine hK _ _ ((Keeps.refl _ w2).alloc _) ?_
      clear hK K
      refine mixd_hard _ rfl (by kernel_rfl) rfl (fun w3 he K hK => ?_)
      have HR3 := Lib.hid (HR2.out.mono (((ExtR w2).alloc _).trans he))
      have hB : ∀ j u, ([.string (x.extract d x.size), .string y] : List Value)[j]? = some u → w3.cell? ((⟨w2.heap.size, 0, none⟩ : Addr).add j) = some u := fun j u hj => cell_ext (news_blk (Blk.new w2 (.cells [Value.string (x.extract d x.size), .string y].toArray 127)) j u hj) he
      refine wp_app Tryz.sRows HR3.out (.tmp 17) (.tmp 25) rfl rfl hB (by intro u hu; simp at hu; rcases hu with rfl | rfl <;> rfl) rfl rfl (by unfold maxLen; omega) (by omega) (fun v' w4 r1 r2 r3 => hK _ _ r2 ?_)
      have r1' : PRow w w4 v' (k + 1) ((dropL d l).take (k + 1)) := by
        unfold PRow; rw [HRL.out, cellsP_append]; exact r1
      have HR4 := Lib.hid r1'
      clear hK K he r1 r2 r3 r1' hB HR2 HR3
      obtain ⟨a4, c4, rfl⟩ := HR4.out.sl
      simp only [Act.put, List.setIfInBounds_toArray, List.set_cons_zero, List.set_cons_succ]
      iterate 1 (refine mixd_pure _ rfl (by kernel_rfl) rfl rfl (fun K hK => ?_); go_big_quiet_op; refine hK _ ?_; clear hK K)
      refine mixd_end (by kernel_rfl) (fun w5 he => ?_)
      have HR5 := Lib.hid (HR4.out.mono he)
      clear he HR4
      go_wp2_with fail
      go_roundw
      case rel => exact ⟨k + 1, by omega, by go_num, HR5.out⟩
      case measure => simp [intOf]; omega
    · have hkl : k = l.length := by omega
      subst hkl
      go_wp2
      go_ret
      have h := HR.out
      rw [List.take_of_length_le (by simp [dropL])] at h
      exact ⟨_, rfl, h⟩
end
end Go.Proofs.YtneojlgbcaejmaaGreatDoor
