/- Parts of the proof, one behind the other: Nibble. Each is under no condition but those that it states. -/
import Derived.Test.YtjogjmffkmfmbaaGreatDoorProg
import Derived.WalkKit
import Derived.LoopTactic
import Derived.Deep.QuietTactic
import Derived.BigQuiet
import Derived.Lib.Hide
/- nibble: Valid, Common. -/
namespace Go.Proofs.YtjogjmffkmfmbaaGreatDoor
section
open Go Go.RowKit
set_option linter.unusedSimpArgs false
set_option linter.unusedVariables false

def validN (s : ByteArray) : Bool := s.data.toList.all (· ≤ 15)

theorem all_take (s : ByteArray) {k : Nat} (h : k < s.size) (p : UInt8 → Bool) : (s.data.toList.take (k + 1)).all p = ((s.data.toList.take k).all p && p s[k]) := by
  have hl : k < s.data.toList.length := by simpa using h
  rw [List.take_succ_eq_append_getElem hl, List.all_append]
  simp
  rfl

set_option maxHeartbeats 1000000 in
theorem valid_c (w : World) (s : ByteArray) (hs : s.size ≤ 1000000000) : Calls Tryz.prog 175 #[.string s] w fun e w' => e = .returned (.bool (validN s)) ∧ w' = w := by
  go_enter Tryz.func175, Tryz.ntmps175
  go_wp2
  go_loop [6] (fun i => ∃ k : Nat, k ≤ s.size ∧ i = .int .i64 k ∧ (s.data.toList.take k).all (· ≤ 15) = true) (fun i => s.size - (intOf i).toNat)
  case atStart => exact ⟨0, Nat.zero_le _, rfl, rfl⟩
  case round =>
    obtain ⟨k, hk, rfl, hall⟩ := hrel
    by_cases hlt : k < s.size
    · have hall' := all_take s hlt (· ≤ 15)
      rw [hall] at hall'
      have HN := Lib.hid hall'
      clear hall'
      go_wp2
      · have hgt : 15 < (s[k].toNat : Int) := by assumption
        go_ret
        refine ⟨?_, rfl⟩
        have hf : decide (s[k] ≤ 15) = false := by
          simp only [decide_eq_false_iff_not, UInt8.le_iff_toNat_le]
          have : (15 : UInt8).toNat = 15 := rfl
          omega
        have h2 : validN s = false := by
          have h3 := HN.out
          simp only [hf, Bool.and_false] at h3
          unfold validN
          rw [← List.take_append_drop (k + 1) s.data.toList, List.all_append, h3]; rfl
        rw [h2]; rfl
      · have hle : (s[k].toNat : Int) ≤ 15 := by assumption
        have ht : decide (s[k] ≤ 15) = true := by
          simp only [decide_eq_true_eq, UInt8.le_iff_toNat_le]
          have : (15 : UInt8).toNat = 15 := rfl
          omega
        have h3 := HN.out
        simp only [ht, Bool.and_true] at h3
        go_round
        case rel => exact ⟨k + 1, by omega, by go_num, h3⟩
        case measure => simp [intOf]; omega
    · have hks : k = s.size := by omega
      have hv : validN s = true := by
        unfold validN
        rw [← hall, hks, List.take_of_length_le]
        simp
      go_wp2
      go_ret
      exact ⟨rfl, rfl⟩

def flagN (leaf odd : Bool) : Int := (if leaf then 2 else 0) + (if odd then 1 else 0)
theorem flag_c (w : World) (leaf odd : Bool) : Calls Tryz.prog 211 #[.bool leaf, .bool odd] w fun e w' => e = .returned (.int .u8 (flagN leaf odd)) ∧ w' = w := by
  cases leaf <;> cases odd
  all_goals
    go_enter Tryz.func211, Tryz.ntmps211
    go_wp2
    go_ret
    exact ⟨rfl, rfl⟩
end
end Go.Proofs.YtjogjmffkmfmbaaGreatDoor
