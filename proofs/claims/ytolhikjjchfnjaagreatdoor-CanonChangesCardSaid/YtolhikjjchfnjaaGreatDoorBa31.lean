/- Parts of the proof, one behind the other: FewC. Each is under no condition but those that it states. -/
import Derived.Test.YtolhikjjchfnjaaGreatDoorBa27
/- canon: FewChanges. -/
namespace Go.Proofs.YtolhikjjchfnjaaGreatDoor
section
open Go Go.RowKit
set_option linter.unusedSimpArgs false
set_option linter.unusedVariables false
def shortC (c : Chg) : Bool := decide (c.key.size ≤ 20) && decide (c.value.size ≤ 100)
def fewC (l : List Chg) : Bool := l.all shortC && decide (l.length ≤ 45)
def FwRelC (w : World) (l : List Chg) (i : Value) (wr : World) : Prop := ∃ k : Nat, k ≤ l.length ∧ k ≤ 46 ∧ i = .int .i64 k ∧ Ext w wr ∧ (l.take k).all shortC = true
theorem all_stepC {l : List Chg} {k : Nat} {p : Chg} (h : l[k]? = some p) : (l.take (k + 1)).all shortC = ((l.take k).all shortC && shortC p) := by
  rw [List.take_add_one, h, List.all_append]; simp
theorem all_notC {l : List Chg} {k : Nat} {p : Chg} (h : l[k]? = some p) (hb : shortC p = false) : fewC l = false := by
  unfold fewC
  have : l.all shortC = false := by
    rw [Bool.eq_false_iff]; intro h2
    have := List.all_eq_true.1 h2 p (List.mem_of_getElem? h)
    rw [hb] at this; cases this
  rw [this]; rfl
set_option maxRecDepth 100000 in
set_option maxHeartbeats 8000000 in
theorem fewc_c (w : World) (v : Value) (l : List Chg) (hv : RdC w v l) (hn : l.length ≤ 9223372036854775807) (hs : ∀ p ∈ l, p.key.size ≤ 9223372036854775807 ∧ p.value.size ≤ 9223372036854775807) :
    Calls Tryz.prog 22 #[v] w fun e w' => e = .returned (.bool (fewC l)) ∧ Ext w w' := by
  have HV := Lib.hid hv
  have HS := Lib.hid hs
  obtain ⟨a, c, hsl⟩ := hv.sl
  subst hsl
  clear hv hs
  obtain ⟨R, hR⟩ : ∃ R, R = fewC l := ⟨_, rfl⟩
  rw [← hR]
  have HR := Lib.hid hR
  clear hR
  go_enter Tryz.func22, Tryz.ntmps22
  go_wp2_with fail
  go_loopw [3] (fun i wr => FwRelC w l i wr) (fun i _ => l.length - (intOf i).toNat)
  case atStart => exact ⟨0, by omega, by omega, rfl, ExtR w, rfl⟩
  case round =>
    obtain ⟨k, hk, hk6, rfl, hE, hall⟩ := hrel
    have HE := Lib.hid hE
    have HALL := Lib.hid hall
    clear hE hall
    by_cases hlt : k < l.length
    · have b1 : (k : Int) < (l.length : Int) := by omega
      by_cases h45 : k ≤ 45
      · have b2 : (k : Int) ≤ 45 := by omega
        obtain ⟨p, hp⟩ : ∃ p, l[k]? = some p := ⟨_, List.getElem?_eq_getElem hlt⟩
        rcases HV.out with ⟨_, _, _, h0⟩ | ⟨b, o, c1, hh, hb, hc, hcell⟩
        · rw [h0] at hlt; cases hlt
        cases hh
        obtain ⟨q1, q2, q3⟩ := hcell k p hp
        have q1 := cell_ext q1 HE.out
        have q2 := cell_ext q2 HE.out
        have q3 := cell_ext q3 HE.out
        have hsp := HS.out p (List.mem_of_getElem? hp)
        have HP := Lib.hid hp
        obtain ⟨x, y, gn⟩ := p
        simp only at q1 q2 q3 hsp
        clear hcell hb hc hp
        by_cases hx : 20 < x.size
        · have b3 : (20 : Int) < (x.size : Int) := by omega
          have HF := Lib.hid (show R = false by rw [HR.out]; exact all_notC HP.out (by unfold shortC; simp; omega))
          clear hx
          go_wp2_with fail
          go_ret
          exact ⟨by rw [HF.out]; rfl, HE.out⟩
        · have b3 : ¬ (20 : Int) < (x.size : Int) := by omega
          by_cases hy : 100 < y.size
          · have b4 : (100 : Int) < (y.size : Int) := by omega
            have HF := Lib.hid (show R = false by rw [HR.out]; exact all_notC HP.out (by unfold shortC; simp; omega))
            clear hx hy
            go_wp2_with fail
            go_ret
            exact ⟨by rw [HF.out]; rfl, HE.out⟩
          · have b4 : ¬ (100 : Int) < (y.size : Int) := by omega
            have HG := Lib.hid (show (l.take (k + 1)).all shortC = true by rw [all_stepC HP.out, HALL.out]; unfold shortC; simp; omega)
            clear hx hy
            go_wp2_with fail
            go_roundw
            case rel => exact ⟨k + 1, by omega, by omega, by go_num, HE.out, HG.out⟩
            case measure => simp [intOf]; omega
      · have b2 : ¬ (k : Int) ≤ 45 := by omega
        have b3 : ¬ (l.length : Int) ≤ 45 := by omega
        have HF := Lib.hid (show R = false by rw [HR.out]; unfold fewC; simp; omega)
        clear h45
        go_wp2_with fail
        go_ret
        exact ⟨by rw [HF.out]; rfl, HE.out⟩
    · have hkl : k = l.length := by omega
      have b1 : ¬ (k : Int) < (l.length : Int) := by omega
      have hall := HALL.out
      rw [hkl, List.take_length] at hall
      by_cases h45 : l.length ≤ 45
      · have b2 : (l.length : Int) ≤ 45 := by omega
        have HF := Lib.hid (show R = true by rw [HR.out]; unfold fewC; rw [hall]; simp; omega)
        clear hkl hall h45
        go_wp2_with fail
        go_ret
        exact ⟨by rw [HF.out]; rfl, HE.out⟩
      · have b2 : ¬ (l.length : Int) ≤ 45 := by omega
        have HF := Lib.hid (show R = false by rw [HR.out]; unfold fewC; simp; omega)
        clear hkl hall h45
        go_wp2_with fail
        go_ret
        exact ⟨by rw [HF.out]; rfl, HE.out⟩
end
end Go.Proofs.YtolhikjjchfnjaaGreatDoor
