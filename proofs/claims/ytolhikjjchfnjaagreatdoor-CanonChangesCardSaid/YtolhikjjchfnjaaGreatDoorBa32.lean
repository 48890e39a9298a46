/- Parts of the proof, one behind the other: SameA. Each is under no condition but those that it states. -/
import Derived.Test.YtolhikjjchfnjaaGreatDoorBa28
import Derived.Test.YtolhikjjchfnjaaGreatDoorBa31
/- reference 05: Same, of entries. -/
namespace Go.Proofs.YtolhikjjchfnjaaGreatDoor
section
open Go Go.RowKit
set_option linter.unusedSimpArgs false
set_option linter.unusedVariables false
def SmRel (w : World) (l m : List Pair) (v : Value) (wr : World) : Prop := ∃ i : Nat, i ≤ l.length ∧ v = .int .i64 i ∧ Ext w wr ∧ l.take i = m.take i
set_option maxRecDepth 100000 in
set_option maxHeartbeats 4000000 in
theorem same_c (w : World) (v u : Value) (l m : List Pair) (hv : RdP w v l) (hu : RdP w u m) (hn : l.length ≤ 1000000) (hn2 : m.length ≤ 1000000) : Calls Tryz.prog 27 #[v, u] w fun e w' => e = .returned (.bool (sameL l m)) ∧ Ext w w' := by
  obtain ⟨a, c, hsl⟩ := hv.sl
  obtain ⟨a', c', hsl'⟩ := hu.sl
  have HV := Lib.hid hv
  have HU := Lib.hid hu
  subst hsl
  subst hsl'
  clear hv hu
  by_cases hlen : l.length = m.length
  · have hq : ((l.length : Int) == (m.length : Int)) = true := by simp; omega
    have hq3 : ((l.length : Int) != (m.length : Int)) = false := by simp; omega
    have HLN := Lib.hid hlen
    obtain ⟨n, hnn⟩ : ∃ n, n = l.length := ⟨_, rfl⟩
    rw [← hlen, ← hnn]
    rw [← hnn] at hn
    have HN := Lib.hid hnn
    clear hq hq3 hlen hnn hn2
    go_enter Tryz.func27, Tryz.ntmps27
    go_wp2_with fail
    go_loopw [5] (fun i wr => SmRel w l m i wr) (fun i _ => n - (intOf i).toNat)
    case atStart => exact ⟨0, by omega, rfl, ExtR w, by simp⟩
    case round =>
      obtain ⟨i, hi, rfl, hE, hall⟩ := hrel
      have HE := Lib.hid hE
      have HALL := Lib.hid hall
      have hi : i ≤ n := by rw [HN.out]; exact hi
      clear hE hall
      by_cases hlt : i < n
      · have hl1 : i < l.length := by have := HN.out; omega
        have hl2 : i < m.length := by have := HN.out; have := HLN.out; omega
        rcases HV.out with ⟨_, _, _, h0⟩ | ⟨b, o, c1, hh, hb, hc, hcell⟩
        · rw [h0] at hl1; cases hl1
        rcases HU.out with ⟨_, _, _, h0⟩ | ⟨b', o', c2, hh', hb', hc', hcell'⟩
        · rw [h0] at hl2; cases hl2
        obtain ⟨rfl, hx1, hx2⟩ := Value.slice.inj hh
        obtain ⟨rfl, hx3, hx4⟩ := Value.slice.inj hh'
        obtain ⟨p, hp⟩ : ∃ p, l[i]? = some p := ⟨_, List.getElem?_eq_getElem hl1⟩
        obtain ⟨q, hq⟩ : ∃ q, m[i]? = some q := ⟨_, List.getElem?_eq_getElem hl2⟩
        obtain ⟨q1, q2⟩ := hcell i p hp
        obtain ⟨q3, q4⟩ := hcell' i q hq
        have hla : ∀ w1, Ext wr w1 → (Instr.loadAt 52 (.pointer (some ⟨b, o + i * 2, none⟩))).run Tryz.prog w1 = .ok (.agg #[.string p.1, .string p.2]) w1 := fun w1 h1 => load_pair (cell_ext q1 (HE.out.trans h1)) (cell_ext q2 (HE.out.trans h1))
        have hlb : ∀ w1, Ext wr w1 → (Instr.loadAt 52 (.pointer (some ⟨b', o' + i * 2, none⟩))).run Tryz.prog w1 = .ok (.agg #[.string q.1, .string q.2]) w1 := fun w1 h1 => load_pair (cell_ext q3 (HE.out.trans h1)) (cell_ext q4 (HE.out.trans h1))
        have hnp := fun w => neq_pair p.1 p.2 q.1 q.2 w
        have HLA := Lib.hid hla
        have HLB := Lib.hid hlb
        have HNP := Lib.hid hnp
        have HP := Lib.hid hp
        have HQ := Lib.hid hq
        have b1 : (i : Int) < (n : Int) := by omega
        clear hcell hcell' hh hh' hx1 hx2 hx3 hx4 hp hq q1 q2 q3 q4 hla hlb hnp hl1 hl2 hc hc'
        go_wp2_with fail
        refine wp_region_mixK [0,1,2,3,4,5,6,7,8] Ext ExtR ExtT (by kernel_rfl) (by kernel_rfl) (by kernel_rfl) ?_
        iterate 3 (refine mixk_pure _ rfl (by kernel_rfl) rfl rfl (fun K hK => ?_); go_big_quiet_op; refine hK _ ?_; clear hK K)
        refine mixk_load ⟨b, o + i * 2, none⟩ _ rfl (by kernel_rfl) rfl rfl (fun w1 h1 => HLA.out w1 ((drewE wr).trans h1)) ?_
        simp only [Act.put, List.setIfInBounds_toArray, List.set_cons_zero, List.set_cons_succ]
        iterate 3 (refine mixk_pure _ rfl (by kernel_rfl) rfl rfl (fun K hK => ?_); go_big_quiet_op; refine hK _ ?_; clear hK K)
        refine mixk_load ⟨b', o' + i * 2, none⟩ _ rfl (by kernel_rfl) rfl rfl (fun w1 h1 => HLB.out w1 ((drewE wr).trans h1)) ?_
        simp only [Act.put, List.setIfInBounds_toArray, List.set_cons_zero, List.set_cons_succ]
        refine mixk_val _ (.bool (!eqP p q)) rfl (by kernel_rfl) rfl (fun w1 h1 => exec_bin rfl rfl (by kernel_rfl) (HNP.out w1)) ?_
        simp only [Act.put, List.setIfInBounds_toArray, List.set_cons_zero, List.set_cons_succ]
        refine mixk_end (by kernel_rfl) (fun w3 he => ?_)
        have HE3 := Lib.hid ((HE.out.trans (drewE wr)).trans he)
        clear he
        cases hpq : eqP p q with
        | true =>
          have hpe := (eqP_iff p q).1 hpq
          have HT := Lib.hid (show l.take (i + 1) = m.take (i + 1) by rw [List.take_add_one, List.take_add_one, HP.out, HQ.out, HALL.out, hpe])
          clear hpq hpe
          go_wp2_with fail
          go_roundw
          case rel => exact ⟨i + 1, by have := HN.out; omega, by go_num, HE3.out, HT.out⟩
          case measure => simp [intOf]; omega
        | false =>
          have HF := Lib.hid (show sameL l m = false by
            cases hs : sameL l m with
            | false => rfl
            | true =>
              have e := (sameL_iff l m).1 hs
              have e1 := HP.out
              rw [e, HQ.out] at e1
              rw [← Option.some.inj e1, (eqP_iff q q).2 rfl] at hpq; cases hpq)
          clear hpq
          go_wp2_with fail
          go_ret
          exact ⟨by rw [HF.out]; rfl, HE3.out⟩
      · have hin : i = n := by omega
        have HF := Lib.hid (show sameL l m = true by
          rw [sameL_iff]
          have := HALL.out
          rw [hin, HN.out, List.take_length, HLN.out, List.take_length] at this; exact this)
        go_wp2_with fail
        go_ret
        exact ⟨by rw [HF.out]; rfl, HE.out⟩
  · have hq : ((l.length : Int) == (m.length : Int)) = false := by simp; omega
    have hq3 : ((l.length : Int) != (m.length : Int)) = true := by simp; omega
    have hq2 : ¬ (l.length : Int) = (m.length : Int) := by omega
    have HF := Lib.hid (show sameL l m = false by
      cases hs : sameL l m with
      | false => rfl
      | true => exact absurd (by rw [(sameL_iff l m).1 hs]) hlen)
    go_enter Tryz.func27, Tryz.ntmps27
    go_wp2_with fail
    go_ret
    exact ⟨by rw [HF.out]; rfl, ExtR w⟩
end
end Go.Proofs.YtolhikjjchfnjaaGreatDoor
