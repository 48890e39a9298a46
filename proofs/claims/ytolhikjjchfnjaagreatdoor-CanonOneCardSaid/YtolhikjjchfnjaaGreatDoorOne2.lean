/- Parts of the proof, one behind the other: RlpA, Shelf, RlpB, RlpC, Word. Each is under no condition but those that it states. -/
import Derived.Test.YtolhikjjchfnjaaGreatDoorOne1
import Derived.Shelf.Strings.Builder1
import Derived.Shelf.Strings.Builder2
import Derived.Shelf.Strings.OnBuilder
import Derived.Shelf.Small.Bits
import Derived.Shelf.Strings.BuilderF
import Derived.Shelf.Strings.BuilderK
import Derived.Shelf.Strconv.Itoa0
import Derived.Shelf.Sort.Plain
import Derived.Shelf.Slices.In.SortNone
import Derived.Test.YtolhikjjchfnjaaGreatDoorProg
import Derived.WalkSpells
/- rlp: reverse, digits, head, Text. -/
namespace Go.Proofs.YtolhikjjchfnjaaGreatDoor
section
open Go Go.RowKit
set_option linter.unusedSimpArgs false
set_option linter.unusedVariables false
theorem Tryz.sBytes : SInfo Tryz.prog 63 5 1 1 := SInfo.mk' Tryz.uBytes Tryz.infoU8 rfl (by decide)

/-- l with its first k and its last k turned round. -/
def revK (l : List UInt8) (k : Nat) : List UInt8 := (List.range l.length).map fun i => if i < k ∨ l.length - 1 - k < i then l.getD (l.length - 1 - i) 0 else l.getD i 0
@[simp] theorem revK_len (l : List UInt8) (k : Nat) : (revK l k).length = l.length := by simp [revK]
theorem revK_zero (l : List UInt8) : revK l 0 = l := by
  apply List.ext_getElem (by simp)
  intro i h1 h2
  simp only [revK, List.getElem_map, List.getElem_range]
  rw [if_neg (by omega)]; simp [h2]
theorem revK_all (l : List UInt8) (k : Nat) (h : l.length ≤ 2 * k + 1) : revK l k = l.reverse := by
  apply List.ext_getElem (by simp)
  intro i h1 h2
  simp at h1
  simp only [revK, List.getElem_map, List.getElem_range, List.getElem_reverse]
  by_cases hc : i < k ∨ l.length - 1 - k < i
  · rw [if_pos hc]; simp [show l.length - 1 - i < l.length by omega]
  · rw [if_neg hc]
    have : i = l.length - 1 - i := by omega
    simp only [List.getD_eq_getElem?_getD, List.getElem?_eq_getElem h1, Option.getD_some]
    congr 1
theorem revK_get (l : List UInt8) (k i : Nat) (hi : i < l.length) (h1 : k ≤ i) (h2 : i ≤ l.length - 1 - k) : (revK l k)[i]? = some l[i] := by
  simp only [revK, List.getElem?_map, List.getElem?_range hi, Option.map_some]
  rw [if_neg (by omega)]; simp [hi]
theorem revK_step (l : List UInt8) (k : Nat) (h : 2 * k + 1 < l.length) : ((revK l k).set k (l[l.length - 1 - k]'(by omega))).set (l.length - 1 - k) (l[k]'(by omega)) = revK l (k + 1) := by
  apply List.ext_getElem (by simp)
  intro i h1 h2
  simp at h2
  simp only [List.getElem_set, revK, List.getElem_map, List.getElem_range]
  by_cases e1 : l.length - 1 - k = i
  · subst e1
    rw [if_pos rfl, if_pos (by omega)]
    have : l.length - 1 - (l.length - 1 - k) = k := by omega
    rw [this]; simp [show k < l.length by omega]
  · rw [if_neg e1]
    by_cases e2 : k = i
    · subst e2
      rw [if_pos rfl, if_pos (by omega)]; simp [show l.length - 1 - k < l.length by omega]
    · rw [if_neg e2]
      by_cases c : i < k ∨ l.length - 1 - k < i
      · rw [if_pos c, if_pos (by omega)]
      · rw [if_neg c, if_neg (by omega)]

def RevRel (w : World) (g n c : Nat) (l : List UInt8) (i j : Value) (wr : World) : Prop := ∃ k : Nat, k ≤ n ∧ i = .int .i64 k ∧ j = .int .i64 ((n : Int) - 1 - k) ∧ wr.ownsRow 0 5 1 (.slice (some ⟨g, 0, none⟩) n c) n (bytesV (revK l k)) ∧ Keeps (fun b => b = g) w wr
def RevPost (w : World) (v : Value) (n : Nat) (l : List UInt8) (e : Ending) (w' : World) : Prop := (∃ r, e = .returned r) ∧ w'.ownsRow 0 5 1 v n (bytesV l.reverse) ∧ Keeps (fun b => v.ownBlock = some b) w w'
set_option maxRecDepth 100000 in
set_option maxHeartbeats 1000000 in
theorem reverse_c (w : World) (v : Value) (n : Nat) (l : List UInt8) (hs : n ≤ 1000000) (hr : w.ownsRow 0 5 1 v n (bytesV l)) : Calls Tryz.prog 167 #[v] w (RevPost w v n l) := by
  have hln : l.length = n := by have := hr.1; simp at this; exact this
  have HL := Lib.hid hln
  clear hln
  have HR := Lib.hid hr
  obtain ⟨_, ⟨rfl, h2⟩ | ⟨g, c, cur, rfl, _⟩⟩ := hr
  · have hl : l = [] := List.eq_nil_of_length_eq_zero (by have := HL.out; omega)
    subst hl
    go_enter Tryz.func167, Tryz.ntmps167
    go_wp2
    refine wp_loop_once ?_
    go_wp2
    go_end0
    exact ⟨⟨_, rfl⟩, HR.out, Keeps.refl _ _⟩
  · go_enter Tryz.func167, Tryz.ntmps167
    go_wp2
    go_loopw [2, 3] (fun i j wr => RevRel w g n c l i j wr) (fun i _ _ => n - (intOf i).toNat)
    case atStart => exact ⟨0, Nat.zero_le _, rfl, by go_num, by rw [revK_zero]; exact HR.out, Keeps.refl _ _⟩
    case round =>
      obtain ⟨k, hk, rfl, rfl, hR, hK⟩ := hrel
      have HR1 := Lib.hid hR
      have HK := Lib.hid hK
      clear hR hK
      by_cases hlt : 2 * k + 1 < n
      · have hlt' : decide ((k : Int) < (n : Int) - 1 - k) = true := by simp; omega
        have hk1 : k < n := by omega
        have e0 : ((n : Int) - 1 - k) = ((n - 1 - k : Nat) : Int) := by omega
        have HE := Lib.hid e0
        have c1 := HR1.out.cellAt k (by omega)
        have c2 := HR1.out.cellAt (n - 1 - k) (by omega)
        have f1 := HR1.out.frozenAt k
        have f2 := HR1.out.frozenAt (n - 1 - k)
        have lk : k < l.length := by have := HL.out; omega
        have lk2 : n - 1 - k < l.length := by have := HL.out; omega
        rw [bytesV, List.getElem?_map, revK_get l k k lk (Nat.le_refl _) (by have := HL.out; omega)] at c1
        rw [bytesV, List.getElem?_map, revK_get l k (n - 1 - k) lk2 (by omega) (by have := HL.out; omega)] at c2
        simp only [Option.map_some] at c1 c2
        have HC1 := Lib.hid c1
        have HC2 := Lib.hid c2
        have HF1 := Lib.hid f1
        have HF2 := Lib.hid f2
        clear c1 c2 f1 f2
        rw [e0] at hlt'
        go_wp2
        rw [e0]
        clear e0
        have d1 : (0 : Int) ≤ ((n - 1 - k : Nat) : Int) := by omega
        have d2 : ((n - 1 - k : Nat) : Int) < (n : Int) := by omega
        refine wp_region_mix [0,1,2,3,4,5,6,7,8,9,10,11,12,13,14,15] [13,15] Ext ExtR ExtT (by kernel_rfl) (by kernel_rfl) (by kernel_rfl) ?_
        iterate 7 (refine mix_pure _ rfl (by kernel_rfl) rfl rfl (fun K hK => ?_); go_big_quiet_op; refine hK _ ?_; clear hK K)
        refine mix_load ⟨g, n - 1 - k, none⟩ _ rfl (by kernel_rfl) rfl rfl (fun w1 h1 => run_load_plain Tryz.uU8 rfl (cell_ext (by exact HC2.out) h1)) ?_
        simp only [Act.put, List.setIfInBounds_toArray, List.set_cons_zero, List.set_cons_succ]
        iterate 3 (refine mix_pure _ rfl (by kernel_rfl) rfl rfl (fun K hK => ?_); go_big_quiet_op; refine hK _ ?_; clear hK K)
        refine mix_load ⟨g, k, none⟩ _ rfl (by kernel_rfl) rfl rfl (fun w1 h1 => run_load_plain Tryz.uU8 rfl (cell_ext (by exact HC1.out) h1)) ?_
        simp only [Act.put, List.setIfInBounds_toArray, List.set_cons_zero, List.set_cons_succ]
        iterate 1 (refine mix_pure _ rfl (by kernel_rfl) rfl rfl (fun K hK => ?_); go_big_quiet_op; refine hK _ ?_; clear hK K)
        refine mix_hard _ rfl (by kernel_rfl) rfl (fun w1 he K hK => ?_)
        have R1 := own_ext HR1.out ((drewE wr).trans he)
        have K1 := HK.out.trans' ((drewE wr).trans he) (fun _ _ h => h.elim)
        have q1 := cell_ext HC1.out ((drewE wr).trans he)
        have q2 := HF1.out
        have q2 : w1.frozen? ⟨g, k, none⟩ = false := R1.frozenAt k
        have R2 := (R1.stored k (.int .u8 (l[n - 1 - k].toNat : Int))).1
        have K2 := Lib.hid (K1.setCell (p := ⟨g, k, none⟩) (.inl rfl) (.int .u8 (l[n - 1 - k].toNat : Int)))
        have HR2 := Lib.hid R2
        clear R1 K1 R2 he
        go_simp
        refine hK _ _ ?_
        clear hK K q1 q2
        iterate 1 (refine mix_pure _ rfl (by kernel_rfl) rfl rfl (fun K hK => ?_); go_big_quiet_op; refine hK _ ?_; clear hK K)
        refine mix_hard _ rfl (by kernel_rfl) rfl (fun w2 he K hK => ?_)
        have R1 := own_ext HR2.out he
        have K1 := K2.out.trans' he (fun _ _ h => h.elim)
        obtain ⟨old, q1⟩ := own_some R1 (n - 1 - k) (by omega)
        have q2 := R1.frozenAt (n - 1 - k)
        have R2 := (R1.stored (n - 1 - k) (.int .u8 (l[k].toNat : Int))).1
        have K3 := Lib.hid (K1.setCell (p := ⟨g, n - 1 - k, none⟩) (.inl rfl) (.int .u8 (l[k].toNat : Int)))
        have e : ((bytesV (revK l k)).set k (.int .u8 (l[n - 1 - k].toNat : Int))).set (n - 1 - k) (.int .u8 (l[k].toNat : Int)) = bytesV (revK l (k + 1)) := by
          have hh := revK_step l k (by have := HL.out; omega)
          rw [← hh]
          simp only [bytesV, List.map_set]
          simp only [HL.out]
        rw [e] at R2
        have HR3 := Lib.hid R2
        clear R1 K1 R2 he e
        go_simp
        refine hK _ _ ?_
        clear hK K q1 q2
        refine mix_end (by kernel_rfl) (fun w3 he => ?_)
        have HR4 := Lib.hid (own_ext HR3.out he)
        have K4 := Lib.hid (K3.out.trans' he (fun _ _ h => h.elim))
        clear he HR3 K3
        go_wp2
        go_roundw
        case rel => exact ⟨k + 1, by omega, by go_num, by have := HE.out; go_num, HR4.out, K4.out⟩
        case measure => simp [intOf]; omega
      · have hlt' : decide ((k : Int) < (n : Int) - 1 - k) = false := by simp; omega
        go_wp2
        go_end0
        refine ⟨⟨_, rfl⟩, ?_, HK.out.mono (fun _ _ e => by rw [e]; rfl)⟩
        have := HR1.out
        rwa [revK_all l k (by have := HL.out; omega)] at this

/-- A number's bytes, the lowest first. -/
def leF : Nat → Nat → List UInt8
  | 0, _ => []
  | f + 1, n => if n = 0 then [] else UInt8.ofNat n :: leF f (n / 256)
theorem leF_len : ∀ (f n : Nat), (leF f n).length ≤ f
  | 0, _ => Nat.le_refl _
  | f + 1, n => by
    simp only [leF]; split
    · simp
    · simp; exact leF_len f _
def digitsB (n : Nat) : ByteArray := ⟨(leF 8 n).reverse.toArray⟩
def DigRel (w : World) (n : Nat) (m b : Value) (wr : World) : Prop := ∃ (k : Nat) (acc : List UInt8), m = .int .u64 k ∧ acc.length ≤ 8 ∧ k < 256 ^ (8 - acc.length) ∧ leF 8 n = acc ++ leF (8 - acc.length) k ∧ BRow w wr b acc.length acc
set_option maxRecDepth 100000 in
set_option maxHeartbeats 1000000 in
theorem digits_c (w : World) (n : Nat) (hn : n < 18446744073709551616) : Calls Tryz.prog 142 #[.int .u64 n] w fun e w' => e = .returned (.string (digitsB n)) ∧ Ext w w' := by
  go_enter Tryz.func142, Tryz.ntmps142
  go_wp2
  go_loopw [0, 3] (fun m b wr => DigRel w n m b wr) (fun m _ _ => (intOf m).toNat)
  case atStart => exact ⟨n, [], rfl, by simp, by simpa using hn, rfl, ORow.nil _ _ (ExtR w)⟩
  case round =>
    obtain ⟨k, acc, rfl, hl8, hk, hacc, hR⟩ := hrel
    obtain ⟨a, c, rfl⟩ := hR.sl
    have HR := Lib.hid hR
    have HA := Lib.hid hacc
    have HK := Lib.hid hk
    clear hR hacc hk
    by_cases h0 : 0 < k
    · have hl7 : acc.length < 8 := by
        rcases Nat.lt_or_ge acc.length 8 with h | h
        · exact h
        · have := HK.out; rw [show 8 - acc.length = 0 by omega] at this; omega
      go_wp2_with (at_builtin; refine wpList_app Tryz.sBytes (HR.out.mono ((ExtR wr).alloc _)) (.tmp 8) (.tmp 11) rfl rfl rfl (news_blk (Blk.new wr _)) (news := [.int .u8 (k % 256)]) (by intro u hu; simp at hu; rw [hu]; rfl) rfl rfl ?c1 ?c2 (fun v' w' r1 r2 r3 => ?_))
      case c1 => unfold maxLen; omega
      case c2 => omega
      have e2 : bytesV acc ++ [.int .u8 ((k : Int) % 256)] = bytesV (acc ++ [UInt8.ofNat k]) := by
        rw [bytesV_append]; simp only [bytesV, List.map_cons, List.map_nil]; rw [← ofNat_u8]
      rw [e2] at r1
      have hstep : leF (8 - acc.length) k = UInt8.ofNat k :: leF (8 - (acc.length + 1)) (k / 256) := by
        rw [show 8 - acc.length = (8 - (acc.length + 1)) + 1 by omega]
        simp only [leF]; rw [if_neg (by omega)]
      have hlt : k / 256 < 256 ^ (8 - (acc.length + 1)) := by
        have := HK.out
        rw [show 8 - acc.length = (8 - (acc.length + 1)) + 1 by omega, Nat.pow_succ] at this
        omega
      have HS := Lib.hid hstep
      have HLT := Lib.hid hlt
      have HR1 := Lib.hid r1
      clear hstep hlt r1 r2 r3 e2 HR
      go_wp2
      go_roundw
      case rel => exact ⟨k / 256, acc ++ [UInt8.ofNat k], by go_num, by simp; omega, by simpa using HLT.out, by rw [HA.out, HS.out]; simp, by simpa using HR1.out⟩
      case measure => simp [intOf]; omega
    · have hk0 : k = 0 := by omega
      subst hk0
      have e : leF 8 n = acc := by rw [HA.out]; cases 8 - acc.length <;> simp [leF]
      have HE := Lib.hid e
      clear e
      go_wp2_with fail
      refine (reverse_c wr _ acc.length acc (by omega) HR.out.own).mono ?_
      rintro e w1 ⟨⟨r, rfl⟩, R1, K1⟩
      have hcv := run_string_row w1 Tryz.uBytes Tryz.uU8 Tryz.uStr R1
      have HX := Lib.hid (ext_of_row HR.out.ext HR.out.new K1)
      clear R1 K1
      go_wp2
      go_ret
      exact ⟨by unfold digitsB; rw [HE.out]; rfl, HX.out⟩

def headB (base : UInt8) (n : Nat) : ByteArray :=
  if n ≤ 55 then ⟨#[base + UInt8.ofNat n]⟩ else ⟨#[base + 55 + UInt8.ofNat (digitsB n).size]⟩ ++ digitsB n
theorem bytes_one (w : World) (b : UInt8) : (w.alloc (.cells #[.int .u8 (b.toNat : Int)] 5)).ownsRow 0 5 1 (.slice (some ⟨w.heap.size, 0, none⟩) 1 1) 1 (bytesV [b]) :=
  World.ownsRow_lit w _ 1 (Nat.zero_le _) (by decide) rfl
theorem add_u8 (a b : UInt8) : ((a.toNat : Int) + (b.toNat : Int)) % (256 : Int) = ((a + b).toNat : Int) := by
  rw [UInt8.toNat_add]; omega
theorem run_string_one (w : World) (b : UInt8) : (convert 63 9 (.slice (some ⟨w.heap.size, 0, none⟩) 1 1)).run Tryz.prog (w.alloc (.cells #[.int .u8 (b.toNat : Int)] 5)) = .ok (.string ⟨#[b]⟩) (w.alloc (.cells #[.int .u8 (b.toNat : Int)] 5)) :=
  run_string_row _ Tryz.uBytes Tryz.uU8 Tryz.uStr (bytes_one w b)
set_option maxRecDepth 100000 in
set_option maxHeartbeats 1000000 in
theorem head_c (w : World) (base : UInt8) (n : Nat) (hn : n ≤ 1000000000) : Calls Tryz.prog 111 #[.int .u8 base.toNat, .int .i64 n] w fun e w' => e = .returned (.string (headB base n)) ∧ Ext w w' := by
  by_cases h : n ≤ 55
  · obtain ⟨x, hx⟩ : ∃ x, x = base + UInt8.ofNat n := ⟨_, rfl⟩
    have e : ((base.toNat : Int) + (n : Int)) % (256 : Int) = (x.toNat : Int) := by rw [hx, ← add_u8, ← ofNat_u8]; omega
    have hcv := run_string_one w x
    have HB := Lib.hid (show headB base n = ⟨#[x]⟩ by unfold headB; rw [if_pos h, hx])
    clear hx
    go_enter Tryz.func111, Tryz.ntmps111
    go_wp2
    go_ret
    exact ⟨by rw [HB.out]; rfl, (ExtR w).alloc _⟩
  · have HB := Lib.hid (show headB base n = ⟨#[base + 55 + UInt8.ofNat (digitsB n).size]⟩ ++ digitsB n by unfold headB; rw [if_neg h])
    go_enter Tryz.func111, Tryz.ntmps111
    go_wp2_with fail
    refine (digits_c w n (by omega)).mono ?_
    rintro e w1 ⟨rfl, hE⟩
    obtain ⟨d, hd⟩ : ∃ d, d = digitsB n := ⟨_, rfl⟩
    have hdl : d.size ≤ 8 := by rw [hd]; have := leF_len 8 n; simpa [digitsB, ByteArray.size] using this
    obtain ⟨x, hx⟩ : ∃ x, x = base + 55 + UInt8.ofNat d.size := ⟨_, rfl⟩
    have e2 : (((base.toNat : Int) + 55) % (256 : Int) + (d.size : Int)) % (256 : Int) = (x.toNat : Int) := by
      rw [hx, ← add_u8, ← add_u8, ← ofNat_u8]; show (((base.toNat : Int) + 55) % (256 : Int) + (d.size : Int)) % (256 : Int) = ((((base.toNat : Int) + 55) % (256 : Int)) + (d.size : Int) % (256 : Int)) % (256 : Int); omega
    have hcv := run_string_one w1 x
    have HD := Lib.hid hd
    have HX := Lib.hid hx
    rw [← hd]
    clear hx hd
    go_wp2
    go_ret
    exact ⟨by rw [HB.out, ← HD.out, ← HX.out]; rfl, hE.alloc _⟩

def textB (b : ByteArray) : ByteArray := if b.size = 1 ∧ b.data.toList.headD 255 < 128 then b else headB 128 b.size ++ b
theorem headB_size (base : UInt8) (n : Nat) : (headB base n).size ≤ 9 := by
  have := leF_len 8 n
  unfold headB
  split
  · exact (by decide : 1 ≤ 9)
  · rw [ByteArray.size_append]
    have h1 : (⟨#[base + 55 + UInt8.ofNat (digitsB n).size]⟩ : ByteArray).size = 1 := rfl
    have h2 : (digitsB n).size = (leF 8 n).length := by simp [digitsB, ByteArray.size]
    omega
set_option maxRecDepth 100000 in
set_option maxHeartbeats 1000000 in
theorem text_c (w : World) (b : ByteArray) (hn : b.size ≤ 1000000000) : Calls Tryz.prog 85 #[.string b] w fun e w' => e = .returned (.string (textB b)) ∧ Ext w w' := by
  by_cases h1 : b.size = 1
  · obtain ⟨x, rfl⟩ : ∃ x, b = ⟨#[x]⟩ := by
      obtain ⟨⟨l⟩⟩ := b
      have h1' : l.length = 1 := h1
      match l, h1' with
      | [x], _ => exact ⟨x, rfl⟩
    by_cases hx : x < 128
    · have HB := Lib.hid (show textB ⟨#[x]⟩ = ⟨#[x]⟩ by unfold textB; rw [if_pos ⟨rfl, hx⟩])
      have hd : (((⟨#[x]⟩ : ByteArray)[0]'(Nat.zero_lt_one)).toNat : Int) < 128 := by show (x.toNat : Int) < 128; have := UInt8.lt_iff_toNat_lt.1 hx; have e : (128 : UInt8).toNat = 128 := rfl; omega
      clear hx h1
      go_enter Tryz.func85, Tryz.ntmps85
      go_wp2_with fail
      all_goals first | (go_ret; exact ⟨by rw [HB.out]; rfl, ExtR w⟩) | (exfalso; omega)
    · have HB := Lib.hid (show textB ⟨#[x]⟩ = headB 128 1 ++ ⟨#[x]⟩ by unfold textB; rw [if_neg (fun h => hx h.2)]; rfl)
      have hd : ¬ (((⟨#[x]⟩ : ByteArray)[0]'(Nat.zero_lt_one)).toNat : Int) < 128 := by show ¬ (x.toNat : Int) < 128; have e : (128 : UInt8).toNat = 128 := rfl; have h2 : ¬ x.toNat < (128 : UInt8).toNat := fun h => hx (UInt8.lt_iff_toNat_lt.2 h); omega
      clear hx h1
      go_enter Tryz.func85, Tryz.ntmps85
      go_wp2_with fail
      refine (head_c w 128 1 (by omega)).mono ?_
      rintro e w' ⟨rfl, hE⟩
      have hsz := headB_size 128 1
      go_wp2
      go_ret
      exact ⟨by rw [HB.out]; rfl, hE⟩
  · have c2 : ((b.size : Int) == 1) = false := by simp; omega
    have HB := Lib.hid (show textB b = headB 128 b.size ++ b by unfold textB; rw [if_neg (fun h => h1 h.1)])
    clear h1
    go_enter Tryz.func85, Tryz.ntmps85
    go_wp2_with fail
    refine (head_c w 128 b.size hn).mono ?_
    rintro e w' ⟨rfl, hE⟩
    have hsz := headB_size 128 b.size
    go_wp2
    go_ret
    exact ⟨by rw [HB.out]; rfl, hE⟩
end
end Go.Proofs.YtolhikjjchfnjaaGreatDoor
/-
  DERIVED: THE SHELF's CONTRACTS AT THIS DUMP, IN PLAIN WORDS (tools/lay-plain.mjs out of 'TryzShelf.lean', which tools/lay-shelf.mjs wrote): THE SAME DECLARATIONS UNDER THE SAME NAMES: 'import', 'namespace', 'open', 'def', 'theorem' AND NOTHING ELSE: no command of the shelf's: FOR A HAND-IN. Each laying: the table of numbers ('.._ren') and one theorem, a field a fact of the dump's own or the kernel's comparison; each contract: ONE APPLICATION.
-/
namespace Go.Proofs
section
open Go.Shelf
def Tryz.lays169_ren : Go.Shelf.Ren := ⟨fun | 169 => 174 | n => n, fun | 70 => 213 | 9 => 9 | 0 => 0 | 72 => 215 | 37 => 63 | 127 => 226 | 3 => 3 | 5 => 5 | n => n, fun | n => n⟩
theorem Tryz.lays169 : Go.Proofs.Lays.n169 Tryz.prog Tryz.lays169_ren := {
  mixed := by kernel_rfl
  f169 := Tryz.func174.trans (congrArg some (by kernel_rfl))
  t0 := Tryz.underlying0
  a0 := Tryz.isAgg0
  z0 := Tryz.sizeOf0
  v0 := Tryz.zeroValue0
  t3 := Tryz.underlying3
  a3 := Tryz.isAgg3
  z3 := Tryz.sizeOf3
  v3 := Tryz.zeroValue3
  t9 := Tryz.underlying9
  a9 := Tryz.isAgg9
  z9 := Tryz.sizeOf9
  v9 := Tryz.zeroValue9
  t37 := Tryz.underlying63
  a37 := Tryz.isAgg63
  z37 := Tryz.sizeOf63
  v37 := Tryz.zeroValue63
  t70 := Tryz.underlying213
  a70 := Tryz.isAgg213
  z70 := Tryz.sizeOf213
  v70 := Tryz.zeroValue213
  t72 := Tryz.underlying215
  a72 := Tryz.isAgg215
  z72 := Tryz.sizeOf215
  v72 := Tryz.zeroValue215
  t127 := Tryz.underlying226
  a127 := Tryz.isAgg226
  z127 := Tryz.sizeOf226
  v127 := Tryz.zeroValue226 }
theorem Tryz.Builder_Extra_169 : Builder.Extra Tryz.prog Tryz.lays169_ren := {
  sizeBuilder := by kernel_rfl
  liesBuilder := by kernel_rfl
  t5 := Tryz.underlying5
  a5 := Tryz.isAgg5
  z5 := Tryz.sizeOf5
  v5 := Tryz.zeroValue5
  infoByte := by kernel_rfl
  cellsByte := by kernel_rfl
  sizeByte := by kernel_rfl
  neB5 := by decide }
open Go.RowKit in
/-- (*strings.Builder).String: "String returns the accumulated string.": OF A BUILDER THAT HOLDS AT LEAST ONE BYTE. ✋ THE MODEL FREEZES THOSE BYTES IN THE BUFFER (unsafe.String): a later write INTO them ends the model's run without an answer; a later append BEHIND them goes on. The statement's order of evaluation is drawn: one draw. (LAID: no walk: one application.) -/
theorem Tryz.Builder_String (B b : Nat) (l : List UInt8) (w : World) (h : Lib.IsBuilder 215 5 B b (Lib.byteCells l) w) (h0 : l ≠ []) :
    Calls Tryz.prog 174 #[.pointer (some ⟨b, 0, none⟩)] w fun e w' => e = .returned (.string ⟨l.toArray⟩) ∧ Below B w w' := Any.Builder_String Tryz.lays169 Tryz.Builder_Extra_169 B b l w h h0
open Go.RowKit in
/-- (*strings.Builder).String OF A BUILDER THAT HOLDS NO BYTE: the empty string. (Its buffer is nil, or a row of which it has taken nothing yet; where that row has NO capacity the model lays one new block for unsafe.SliceData's 'some address'.) One draw. (LAID: no walk: one application.) -/
theorem Tryz.Builder_String_empty (B b : Nat) (w : World) (h : Lib.IsBuilder 215 5 B b [] w) (hBw : B ≤ w.heap.size) :
    Calls Tryz.prog 174 #[.pointer (some ⟨b, 0, none⟩)] w fun e w' => e = .returned (.string ⟨#[]⟩) ∧ Below B w w' := Any.Builder_String_empty Tryz.lays169 Tryz.Builder_Extra_169 B b w h hBw
open Go.RowKit in
/-- (*strings.Builder).String: "String returns the accumulated string.": WHATEVER THE BUILDER HOLDS. (LAID: no walk: one application.) -/
theorem Tryz.Builder_String_any (B b : Nat) (l : List UInt8) (w : World) (h : Lib.IsBuilder 215 5 B b (Lib.byteCells l) w) (hBw : B ≤ w.heap.size) :
    Calls Tryz.prog 174 #[.pointer (some ⟨b, 0, none⟩)] w fun e w' => e = .returned (.string ⟨l.toArray⟩) ∧ Below B w w' := Any.Builder_String_any Tryz.lays169 Tryz.Builder_Extra_169 B b l w h hBw
def Tryz.lays241_ren : Go.Shelf.Ren := ⟨fun | 241 => 184 | 277 => 187 | n => n, fun | 70 => 213 | 3 => 3 | 0 => 0 | 72 => 215 | 37 => 63 | 5 => 5 | n => n, fun | n => n⟩
theorem Tryz.lays241 : Go.Proofs.Lays.n241 Tryz.prog Tryz.lays241_ren := {
  mixed := by kernel_rfl
  f241 := Tryz.func184.trans (congrArg some (by kernel_rfl))
  f277 := Tryz.func187.trans (congrArg some (by kernel_rfl))
  t0 := Tryz.underlying0
  a0 := Tryz.isAgg0
  z0 := Tryz.sizeOf0
  v0 := Tryz.zeroValue0
  t3 := Tryz.underlying3
  a3 := Tryz.isAgg3
  z3 := Tryz.sizeOf3
  v3 := Tryz.zeroValue3
  t37 := Tryz.underlying63
  a37 := Tryz.isAgg63
  z37 := Tryz.sizeOf63
  v37 := Tryz.zeroValue63
  t70 := Tryz.underlying213
  a70 := Tryz.isAgg213
  z70 := Tryz.sizeOf213
  v70 := Tryz.zeroValue213
  t72 := Tryz.underlying215
  a72 := Tryz.isAgg215
  z72 := Tryz.sizeOf215
  v72 := Tryz.zeroValue215 }
theorem Tryz.Builder_Extra_241 : Builder.Extra Tryz.prog Tryz.lays241_ren := {
  sizeBuilder := by kernel_rfl
  liesBuilder := by kernel_rfl
  t5 := Tryz.underlying5
  a5 := Tryz.isAgg5
  z5 := Tryz.sizeOf5
  v5 := Tryz.zeroValue5
  infoByte := by kernel_rfl
  cellsByte := by kernel_rfl
  sizeByte := by kernel_rfl
  neB5 := by decide }
open Go.RowKit in
/-- (*strings.Builder).grow (no doc but "grow copies the buffer to a new, larger buffer so that there are at least n bytes of capacity beyond len(b.buf)."): AT A BUILDER WITHOUT A BUFFER: a new row of whatever bytes for its buffer, none of them its own yet. Three draws. (LAID: no walk: one application.) -/
theorem Tryz.Builder_grow_fresh (B b n : Nat) (w : World) (hB : B ≤ b) (hbk : w.heap[b]? = some (.cells #[.pointer (some ⟨b, 0, none⟩), .slice none 0 0] 215 (0, 0))) (hBw : B ≤ w.heap.size) (hn : n ≤ 281474976710656) :
    Calls Tryz.prog 184 #[.pointer (some ⟨b, 0, none⟩), .int .i64 n] w fun e w' => e = .returned (.tuple #[]) ∧ (Lib.BuilderAt 215 5 B b (.pointer (some ⟨b, 0, none⟩)) [] w' ∧ Below B w w') := Any.Builder_grow_fresh Tryz.lays241 Tryz.Builder_Extra_241 B b n w hB hbk hBw hn
def Tryz.lays165_ren : Go.Shelf.Ren := ⟨fun | 165 => 172 | 240 => 183 | 241 => 184 | 276 => 186 | 277 => 187 | n => n, fun | 70 => 213 | 3 => 3 | 0 => 0 | 4 => 4 | 9 => 9 | 20 => 20 | 72 => 215 | 37 => 63 | 164 => 203 | 5 => 5 | n => n, fun | n => n⟩
theorem Tryz.lays165 : Go.Proofs.Lays.n165 Tryz.prog Tryz.lays165_ren := {
  mixed := by kernel_rfl
  f165 := Tryz.func172.trans (congrArg some (by kernel_rfl))
  f240 := Tryz.func183.trans (congrArg some (by kernel_rfl))
  f241 := Tryz.func184.trans (congrArg some (by kernel_rfl))
  f276 := Tryz.func186.trans (congrArg some (by kernel_rfl))
  f277 := Tryz.func187.trans (congrArg some (by kernel_rfl))
  t0 := Tryz.underlying0
  a0 := Tryz.isAgg0
  z0 := Tryz.sizeOf0
  v0 := Tryz.zeroValue0
  t3 := Tryz.underlying3
  a3 := Tryz.isAgg3
  z3 := Tryz.sizeOf3
  v3 := Tryz.zeroValue3
  t4 := Tryz.underlying4
  a4 := Tryz.isAgg4
  z4 := Tryz.sizeOf4
  v4 := Tryz.zeroValue4
  t9 := Tryz.underlying9
  a9 := Tryz.isAgg9
  z9 := Tryz.sizeOf9
  v9 := Tryz.zeroValue9
  t20 := Tryz.underlying20
  a20 := Tryz.isAgg20
  z20 := Tryz.sizeOf20
  v20 := Tryz.zeroValue20
  t37 := Tryz.underlying63
  a37 := Tryz.isAgg63
  z37 := Tryz.sizeOf63
  v37 := Tryz.zeroValue63
  t70 := Tryz.underlying213
  a70 := Tryz.isAgg213
  z70 := Tryz.sizeOf213
  v70 := Tryz.zeroValue213
  t72 := Tryz.underlying215
  a72 := Tryz.isAgg215
  z72 := Tryz.sizeOf215
  v72 := Tryz.zeroValue215
  t164 := Tryz.underlying203
  a164 := Tryz.isAgg203
  z164 := Tryz.sizeOf203
  v164 := Tryz.zeroValue203 }
theorem Tryz.Builder_Extra_165 : Builder.Extra Tryz.prog Tryz.lays165_ren := {
  sizeBuilder := by kernel_rfl
  liesBuilder := by kernel_rfl
  t5 := Tryz.underlying5
  a5 := Tryz.isAgg5
  z5 := Tryz.sizeOf5
  v5 := Tryz.zeroValue5
  infoByte := by kernel_rfl
  cellsByte := by kernel_rfl
  sizeByte := by kernel_rfl
  neB5 := by decide }
open Go.RowKit in
/-- (*strings.Builder).Grow AT A BUILDER THAT HAS NOT BEEN WRITTEN ('var b strings.Builder; b.Grow(n)'): "Grow grows b's capacity, if necessary, to guarantee space for another n bytes.": it holds no byte behind it as before it. (LAID: no walk: one application.) -/
theorem Tryz.Builder_Grow_fresh (B b n : Nat) (w : World) (hB : B ≤ b) (hbk : w.heap[b]? = some (.cells #[.pointer none, .slice none 0 0] 215 (0, 0))) (hBw : B ≤ w.heap.size) (hn : n ≤ 281474976710656) :
    Calls Tryz.prog 172 #[.pointer (some ⟨b, 0, none⟩), .int .i64 n] w fun e w' => e = .returned (.tuple #[]) ∧ (Lib.BuilderAt 215 5 B b (.pointer (some ⟨b, 0, none⟩)) [] w' ∧ Below B w w') := Any.Builder_Grow_fresh Tryz.lays165 Tryz.Builder_Extra_165 B b n w hB hbk hBw hn
def Tryz.lays156_ren : Go.Shelf.Ren := ⟨fun | 156 => 153 | 165 => 172 | 166 => 173 | 169 => 174 | 240 => 183 | 241 => 184 | 276 => 186 | 277 => 187 | n => n, fun | 31 => 29 | 9 => 9 | 3 => 3 | 4 => 4 | 0 => 0 | 20 => 20 | 72 => 215 | 76 => 169 | 70 => 213 | 37 => 63 | 75 => 139 | 127 => 226 | 164 => 203 | 5 => 5 | 80 => 88 | n => n, fun | n => n⟩
theorem Tryz.lays156 : Go.Proofs.Lays.n156 Tryz.prog Tryz.lays156_ren := {
  mixed := by kernel_rfl
  f156 := Tryz.func153.trans (congrArg some (by kernel_rfl))
  f165 := Tryz.func172.trans (congrArg some (by kernel_rfl))
  f166 := Tryz.func173.trans (congrArg some (by kernel_rfl))
  f169 := Tryz.func174.trans (congrArg some (by kernel_rfl))
  f240 := Tryz.func183.trans (congrArg some (by kernel_rfl))
  f241 := Tryz.func184.trans (congrArg some (by kernel_rfl))
  f276 := Tryz.func186.trans (congrArg some (by kernel_rfl))
  f277 := Tryz.func187.trans (congrArg some (by kernel_rfl))
  t0 := Tryz.underlying0
  a0 := Tryz.isAgg0
  z0 := Tryz.sizeOf0
  v0 := Tryz.zeroValue0
  t3 := Tryz.underlying3
  a3 := Tryz.isAgg3
  z3 := Tryz.sizeOf3
  v3 := Tryz.zeroValue3
  t4 := Tryz.underlying4
  a4 := Tryz.isAgg4
  z4 := Tryz.sizeOf4
  v4 := Tryz.zeroValue4
  t9 := Tryz.underlying9
  a9 := Tryz.isAgg9
  z9 := Tryz.sizeOf9
  v9 := Tryz.zeroValue9
  t20 := Tryz.underlying20
  a20 := Tryz.isAgg20
  z20 := Tryz.sizeOf20
  v20 := Tryz.zeroValue20
  t31 := Tryz.underlying29
  a31 := Tryz.isAgg29
  z31 := Tryz.sizeOf29
  v31 := Tryz.zeroValue29
  t37 := Tryz.underlying63
  a37 := Tryz.isAgg63
  z37 := Tryz.sizeOf63
  v37 := Tryz.zeroValue63
  t70 := Tryz.underlying213
  a70 := Tryz.isAgg213
  z70 := Tryz.sizeOf213
  v70 := Tryz.zeroValue213
  t72 := Tryz.underlying215
  a72 := Tryz.isAgg215
  z72 := Tryz.sizeOf215
  v72 := Tryz.zeroValue215
  t75 := Tryz.underlying139
  a75 := Tryz.isAgg139
  z75 := Tryz.sizeOf139
  v75 := Tryz.zeroValue139
  t76 := Tryz.underlying169
  a76 := Tryz.isAgg169
  z76 := Tryz.sizeOf169
  v76 := Tryz.zeroValue169
  t127 := Tryz.underlying226
  a127 := Tryz.isAgg226
  z127 := Tryz.sizeOf226
  v127 := Tryz.zeroValue226
  t164 := Tryz.underlying203
  a164 := Tryz.isAgg203
  z164 := Tryz.sizeOf203
  v164 := Tryz.zeroValue203 }
theorem Tryz.Builder_Extra_156 : Builder.Extra Tryz.prog Tryz.lays156_ren := {
  sizeBuilder := by kernel_rfl
  liesBuilder := by kernel_rfl
  t5 := Tryz.underlying5
  a5 := Tryz.isAgg5
  z5 := Tryz.sizeOf5
  v5 := Tryz.zeroValue5
  infoByte := by kernel_rfl
  cellsByte := by kernel_rfl
  sizeByte := by kernel_rfl
  neB5 := by decide }
open Go.RowKit in
/-- No element: the empty string; the world is as it was. (Whatever the slice's address and capacity: a nil slice too.) (LAID: no walk: one application.) -/
theorem Tryz.strings_Join_none (a : Option Addr) (c : Nat) (sep : ByteArray) (w : World) :
    Calls Tryz.prog 153 #[.slice a 0 c, .string sep] w fun e w' => e = .returned (.string ⟨#[]⟩) ∧ w' = w := Any.strings_Join_none Tryz.lays156 Tryz.Builder_Extra_156 a c sep w
open Go.RowKit in
/-- strings.Join: "Join concatenates the elements of its first argument to create a single string. The separator string sep is placed between elements in the resulting string.": HOWEVER MANY ELEMENTS. Below the heap's end the world is as it was. (LAID: no walk: one application.) -/
theorem Tryz.strings_Join (bk o c : Nat) (xs : List ByteArray) (sep : ByteArray) (w : World) (hcells : ∀ (j : Nat) x, xs[j]? = some x → w.cell? ⟨bk, o + j, none⟩ = some (.string x)) (hbk : bk < w.heap.size) (hN : xs.length ≤ 140737488355328) (hcap : xs.length ≤ c) (hlen : (Lib.join (xs.map (·.data.toList)) sep.data.toList).length ≤ 140737488355328) :
    Calls Tryz.prog 153 #[.slice (some ⟨bk, o, none⟩) xs.length c, .string sep] w fun e w' => e = .returned (.string ⟨(Lib.join (xs.map (·.data.toList)) sep.data.toList).toArray⟩) ∧ Below w.heap.size w w' := Any.strings_Join Tryz.lays156 Tryz.Builder_Extra_156 bk o c xs sep w hcells hbk hN hcap hlen
def Tryz.lays128_ren : Go.Shelf.Ren := ⟨fun | 128 => 140 | n => n, fun | 51 => 110 | 3 => 3 | 4 => 4 | 46 => 111 | 5 => 5 | 9 => 9 | n => n, fun | n => n⟩
theorem Tryz.lays128 : Go.Proofs.Lays.n128 Tryz.prog Tryz.lays128_ren := {
  mixed := by kernel_rfl
  f128 := Tryz.func140.trans (congrArg some (by kernel_rfl))
  t3 := Tryz.underlying3
  a3 := Tryz.isAgg3
  z3 := Tryz.sizeOf3
  v3 := Tryz.zeroValue3
  t4 := Tryz.underlying4
  a4 := Tryz.isAgg4
  z4 := Tryz.sizeOf4
  v4 := Tryz.zeroValue4
  t5 := Tryz.underlying5
  a5 := Tryz.isAgg5
  z5 := Tryz.sizeOf5
  v5 := Tryz.zeroValue5
  t9 := Tryz.underlying9
  a9 := Tryz.isAgg9
  z9 := Tryz.sizeOf9
  v9 := Tryz.zeroValue9
  t46 := Tryz.underlying111
  a46 := Tryz.isAgg111
  z46 := Tryz.sizeOf111
  v46 := Tryz.zeroValue111
  t51 := Tryz.underlying110
  a51 := Tryz.isAgg110
  z51 := Tryz.sizeOf110
  v51 := Tryz.zeroValue110 }
/-- bits.Len32: "Len32 returns the minimum number of bits required to represent x; the result is 0 for x == 0.": IT RETURNS 'Lib.bitLen x'; the world is as it was. ('h0', 'h1': x is a uint32.) (LAID: no walk: one application.) -/
theorem Tryz.bits_Len32 (x : Int) (w : World) (h0 : 0 ≤ x) (h1 : x ≤ 4294967295) :
    Calls Tryz.prog 140 #[.int .u32 x] w fun e w' => e = .returned (.int .i64 (Lib.bitLen x.toNat)) ∧ w' = w := Any.bits_Len32 Tryz.lays128 x w h0 h1
def Tryz.lays125_ren : Go.Shelf.Ren := ⟨fun | 125 => 110 | 128 => 140 | 129 => 141 | n => n, fun | 46 => 111 | 3 => 3 | 51 => 110 | 53 => 126 | 4 => 4 | 5 => 5 | 9 => 9 | n => n, fun | n => n⟩
theorem Tryz.lays125 : Go.Proofs.Lays.n125 Tryz.prog Tryz.lays125_ren := {
  mixed := by kernel_rfl
  f125 := Tryz.func110.trans (congrArg some (by kernel_rfl))
  f128 := Tryz.func140.trans (congrArg some (by kernel_rfl))
  f129 := Tryz.func141.trans (congrArg some (by kernel_rfl))
  t3 := Tryz.underlying3
  a3 := Tryz.isAgg3
  z3 := Tryz.sizeOf3
  v3 := Tryz.zeroValue3
  t4 := Tryz.underlying4
  a4 := Tryz.isAgg4
  z4 := Tryz.sizeOf4
  v4 := Tryz.zeroValue4
  t5 := Tryz.underlying5
  a5 := Tryz.isAgg5
  z5 := Tryz.sizeOf5
  v5 := Tryz.zeroValue5
  t9 := Tryz.underlying9
  a9 := Tryz.isAgg9
  z9 := Tryz.sizeOf9
  v9 := Tryz.zeroValue9
  t46 := Tryz.underlying111
  a46 := Tryz.isAgg111
  z46 := Tryz.sizeOf111
  v46 := Tryz.zeroValue111
  t51 := Tryz.underlying110
  a51 := Tryz.isAgg110
  z51 := Tryz.sizeOf110
  v51 := Tryz.zeroValue110
  t53 := Tryz.underlying126
  a53 := Tryz.isAgg126
  z53 := Tryz.sizeOf126
  v53 := Tryz.zeroValue126 }
/-- bits.Len: "Len returns the minimum number of bits required to represent x; the result is 0 for x == 0.": IT RETURNS 'Lib.bitLen x'; the world is as it was. (A uint has 64 bits in the model.) ITS CALLEE bits.Len64 IS MET BY ITS OWN CONTRACT OFF THE SHELF (lay that first). (LAID: no walk: one application.) -/
theorem Tryz.bits_Len (x : Int) (w : World) (h0 : 0 ≤ x) (h1 : x ≤ 18446744073709551615) :
    Calls Tryz.prog 110 #[.int .u64 x] w fun e w' => e = .returned (.int .i64 (Lib.bitLen x.toNat)) ∧ w' = w := Any.bits_Len Tryz.lays125 x w h0 h1
open Go.RowKit in
/-- (*strings.Builder).String: "String returns the accumulated string.": OF A BUILDER THAT HOLDS AT LEAST ONE BYTE. ✋ THE MODEL FREEZES THOSE BYTES IN THE BUFFER (unsafe.String): a later write INTO them ends the model's run without an answer; a later append BEHIND them goes on. The statement's order of evaluation is drawn: one draw. THE FORM '_f': IT SAYS BESIDES THAT THE BUILDER IS A BUILDER STILL ('Lib.IsBuilderF', the same bytes): SO IT CAN BE WRITTEN ON: 'b.WriteString(b.String()[:k])'. (LAID: no walk: one application.) -/
theorem Tryz.Builder_String_f (B b : Nat) (l : List UInt8) (w : World) (h : Lib.IsBuilderF 215 5 B b (Lib.byteCells l) w) (h0 : l ≠ []) :
    Calls Tryz.prog 174 #[.pointer (some ⟨b, 0, none⟩)] w fun e w' => e = .returned (.string ⟨l.toArray⟩) ∧ (Lib.IsBuilderF 215 5 B b (Lib.byteCells l) w' ∧ Below B w w') := Any.Builder_String_f Tryz.lays169 Tryz.Builder_Extra_169 B b l w h h0
open Go.RowKit in
/-- (*strings.Builder).String OF A BUILDER THAT HOLDS NO BYTE: the empty string; THE FORM '_f': a builder still. (LAID: no walk: one application.) -/
theorem Tryz.Builder_String_empty_f (B b : Nat) (w : World) (h : Lib.IsBuilderF 215 5 B b [] w) (hBw : B ≤ w.heap.size) :
    Calls Tryz.prog 174 #[.pointer (some ⟨b, 0, none⟩)] w fun e w' => e = .returned (.string ⟨#[]⟩) ∧ (Lib.IsBuilderF 215 5 B b [] w' ∧ Below B w w') := Any.Builder_String_empty_f Tryz.lays169 Tryz.Builder_Extra_169 B b w h hBw
open Go.RowKit in
/-- (*strings.Builder).String: "String returns the accumulated string.": WHATEVER THE BUILDER HOLDS; THE FORM '_f': OF A BUILDER THAT MAY HAVE BEEN READ BEFORE; AND IT IS A BUILDER STILL, holding the same bytes: it can be written on. (LAID: no walk: one application.) -/
theorem Tryz.Builder_String_any_f (B b : Nat) (l : List UInt8) (w : World) (h : Lib.IsBuilderF 215 5 B b (Lib.byteCells l) w) (hBw : B ≤ w.heap.size) :
    Calls Tryz.prog 174 #[.pointer (some ⟨b, 0, none⟩)] w fun e w' => e = .returned (.string ⟨l.toArray⟩) ∧ (Lib.IsBuilderF 215 5 B b (Lib.byteCells l) w' ∧ Below B w w') := Any.Builder_String_any_f Tryz.lays169 Tryz.Builder_Extra_169 B b l w h hBw
open Go.RowKit in
/-- (*strings.Builder).String: "String returns the accumulated string.": OF A BUILDER THAT HOLDS AT LEAST ONE BYTE. ✋ THE MODEL FREEZES THOSE BYTES IN THE BUFFER (unsafe.String): a later write INTO them ends the model's run without an answer; a later append BEHIND them goes on. The statement's order of evaluation is drawn: one draw. THE FORM '_k': OVER 'Lib.IsBuilderF' (a builder that 'String()' may have read), AND WITH THE FRAME THAT REACHES ABOVE THE BUILDER: 'Lib.OthersKept': every block that is not b and is no row of uint8's stands as it stood: the iterator of a range among them. (LAID: no walk: one application.) -/
theorem Tryz.Builder_String_k (B b : Nat) (l : List UInt8) (w : World) (h : Lib.IsBuilderF 215 5 B b (Lib.byteCells l) w) (h0 : l ≠ []) :
    Calls Tryz.prog 174 #[.pointer (some ⟨b, 0, none⟩)] w fun e w' => e = .returned (.string ⟨l.toArray⟩) ∧ (Lib.IsBuilderF 215 5 B b (Lib.byteCells l) w' ∧ Below B w w' ∧ Lib.OthersKept 5 (some b) w w') := Any.Builder_String_k Tryz.lays169 Tryz.Builder_Extra_169 B b l w h h0
open Go.RowKit in
/-- (*strings.Builder).String OF A BUILDER THAT HOLDS NO BYTE: the empty string; THE FORM '_k': OVER 'Lib.IsBuilderF' (a builder that 'String()' may have read), AND WITH THE FRAME THAT REACHES ABOVE THE BUILDER: 'Lib.OthersKept': every block that is not b and is no row of uint8's stands as it stood: the iterator of a range among them. (LAID: no walk: one application.) -/
theorem Tryz.Builder_String_empty_k (B b : Nat) (w : World) (h : Lib.IsBuilderF 215 5 B b [] w) (hBw : B ≤ w.heap.size) :
    Calls Tryz.prog 174 #[.pointer (some ⟨b, 0, none⟩)] w fun e w' => e = .returned (.string ⟨#[]⟩) ∧ (Lib.IsBuilderF 215 5 B b [] w' ∧ Below B w w' ∧ Lib.OthersKept 5 (some b) w w') := Any.Builder_String_empty_k Tryz.lays169 Tryz.Builder_Extra_169 B b w h hBw
open Go.RowKit in
/-- (*strings.Builder).String: "String returns the accumulated string.": WHATEVER THE BUILDER HOLDS; THE FORM '_k': OVER 'Lib.IsBuilderF' (a builder that 'String()' may have read), AND WITH THE FRAME THAT REACHES ABOVE THE BUILDER: 'Lib.OthersKept': every block that is not b and is no row of uint8's stands as it stood: the iterator of a range among them. (LAID: no walk: one application.) -/
theorem Tryz.Builder_String_any_k (B b : Nat) (l : List UInt8) (w : World) (h : Lib.IsBuilderF 215 5 B b (Lib.byteCells l) w) (hBw : B ≤ w.heap.size) :
    Calls Tryz.prog 174 #[.pointer (some ⟨b, 0, none⟩)] w fun e w' => e = .returned (.string ⟨l.toArray⟩) ∧ (Lib.IsBuilderF 215 5 B b (Lib.byteCells l) w' ∧ Below B w w' ∧ Lib.OthersKept 5 (some b) w w') := Any.Builder_String_any_k Tryz.lays169 Tryz.Builder_Extra_169 B b l w h hBw
def Tryz.lays129_ren : Go.Shelf.Ren := ⟨fun | 129 => 141 | n => n, fun | 53 => 126 | 3 => 3 | 4 => 4 | 46 => 111 | 5 => 5 | 9 => 9 | n => n, fun | n => n⟩
theorem Tryz.lays129 : Go.Proofs.Lays.n129 Tryz.prog Tryz.lays129_ren := {
  mixed := by kernel_rfl
  f129 := Tryz.func141.trans (congrArg some (by kernel_rfl))
  t3 := Tryz.underlying3
  a3 := Tryz.isAgg3
  z3 := Tryz.sizeOf3
  v3 := Tryz.zeroValue3
  t4 := Tryz.underlying4
  a4 := Tryz.isAgg4
  z4 := Tryz.sizeOf4
  v4 := Tryz.zeroValue4
  t5 := Tryz.underlying5
  a5 := Tryz.isAgg5
  z5 := Tryz.sizeOf5
  v5 := Tryz.zeroValue5
  t9 := Tryz.underlying9
  a9 := Tryz.isAgg9
  z9 := Tryz.sizeOf9
  v9 := Tryz.zeroValue9
  t46 := Tryz.underlying111
  a46 := Tryz.isAgg111
  z46 := Tryz.sizeOf111
  v46 := Tryz.zeroValue111
  t53 := Tryz.underlying126
  a53 := Tryz.isAgg126
  z53 := Tryz.sizeOf126
  v53 := Tryz.zeroValue126 }
/-- bits.Len64: "Len64 returns the minimum number of bits required to represent x; the result is 0 for x == 0.": IT RETURNS 'Lib.bitLen x'; the world is as it was. ('h0', 'h1': x is a uint64.) (LAID: no walk: one application.) -/
theorem Tryz.bits_Len64 (x : Int) (w : World) (h0 : 0 ≤ x) (h1 : x ≤ 18446744073709551615) :
    Calls Tryz.prog 141 #[.int .u64 x] w fun e w' => e = .returned (.int .i64 (Lib.bitLen x.toNat)) ∧ w' = w := Any.bits_Len64 Tryz.lays129 x w h0 h1
def Tryz.lays190_ren : Go.Shelf.Ren := ⟨fun | 190 => 83 | 125 => 110 | 258 => 109 | 128 => 140 | 129 => 141 | 302 => 131 | 303 => 132 | 304 => 133 | 305 => 134 | 306 => 135 | 307 => 136 | 308 => 137 | 309 => 138 | 310 => 139 | 333 => 161 | 329 => 162 | 330 => 163 | 334 => 164 | 335 => 165 | 336 => 166 | 344 => 180 | n => n, fun | 31 => 29 | 9 => 9 | 3 => 3 | 46 => 111 | 0 => 0 | 51 => 110 | 53 => 126 | 4 => 4 | 183 => 159 | 182 => 158 | 131 => 163 | 5 => 5 | 218 => 186 | 222 => 190 | 228 => 218 | 229 => 219 | n => n, fun | n => n⟩
theorem Tryz.lays190 : Go.Proofs.Lays.n190 Tryz.prog Tryz.lays190_ren := {
  mixed := by kernel_rfl
  f125 := Tryz.func110.trans (congrArg some (by kernel_rfl))
  f128 := Tryz.func140.trans (congrArg some (by kernel_rfl))
  f129 := Tryz.func141.trans (congrArg some (by kernel_rfl))
  f190 := Tryz.func83.trans (congrArg some (by kernel_rfl))
  f258 := Tryz.func109.trans (congrArg some (by kernel_rfl))
  f302 := Tryz.func131.trans (congrArg some (by kernel_rfl))
  f303 := Tryz.func132.trans (congrArg some (by kernel_rfl))
  f304 := Tryz.func133.trans (congrArg some (by kernel_rfl))
  f305 := Tryz.func134.trans (congrArg some (by kernel_rfl))
  f306 := Tryz.func135.trans (congrArg some (by kernel_rfl))
  f307 := Tryz.func136.trans (congrArg some (by kernel_rfl))
  f308 := Tryz.func137.trans (congrArg some (by kernel_rfl))
  f309 := Tryz.func138.trans (congrArg some (by kernel_rfl))
  f310 := Tryz.func139.trans (congrArg some (by kernel_rfl))
  f329 := Tryz.func162.trans (congrArg some (by kernel_rfl))
  f330 := Tryz.func163.trans (congrArg some (by kernel_rfl))
  f333 := Tryz.func161.trans (congrArg some (by kernel_rfl))
  f334 := Tryz.func164.trans (congrArg some (by kernel_rfl))
  f335 := Tryz.func165.trans (congrArg some (by kernel_rfl))
  f336 := Tryz.func166.trans (congrArg some (by kernel_rfl))
  f344 := Tryz.func180.trans (congrArg some (by kernel_rfl))
  t0 := Tryz.underlying0
  a0 := Tryz.isAgg0
  z0 := Tryz.sizeOf0
  v0 := Tryz.zeroValue0
  t3 := Tryz.underlying3
  a3 := Tryz.isAgg3
  z3 := Tryz.sizeOf3
  v3 := Tryz.zeroValue3
  t4 := Tryz.underlying4
  a4 := Tryz.isAgg4
  z4 := Tryz.sizeOf4
  v4 := Tryz.zeroValue4
  t5 := Tryz.underlying5
  a5 := Tryz.isAgg5
  z5 := Tryz.sizeOf5
  v5 := Tryz.zeroValue5
  t9 := Tryz.underlying9
  a9 := Tryz.isAgg9
  z9 := Tryz.sizeOf9
  v9 := Tryz.zeroValue9
  t31 := Tryz.underlying29
  a31 := Tryz.isAgg29
  z31 := Tryz.sizeOf29
  v31 := Tryz.zeroValue29
  t46 := Tryz.underlying111
  a46 := Tryz.isAgg111
  z46 := Tryz.sizeOf111
  v46 := Tryz.zeroValue111
  t51 := Tryz.underlying110
  a51 := Tryz.isAgg110
  z51 := Tryz.sizeOf110
  v51 := Tryz.zeroValue110
  t53 := Tryz.underlying126
  a53 := Tryz.isAgg126
  z53 := Tryz.sizeOf126
  v53 := Tryz.zeroValue126
  t131 := Tryz.underlying163
  a131 := Tryz.isAgg163
  z131 := Tryz.sizeOf163
  v131 := Tryz.zeroValue163
  t182 := Tryz.underlying158
  a182 := Tryz.isAgg158
  z182 := Tryz.sizeOf158
  v182 := Tryz.zeroValue158
  t183 := Tryz.underlying159
  a183 := Tryz.isAgg159
  z183 := Tryz.sizeOf159
  v183 := Tryz.zeroValue159
  t218 := Tryz.underlying186
  a218 := Tryz.isAgg186
  z218 := Tryz.sizeOf186
  v218 := Tryz.zeroValue186
  t222 := Tryz.underlying190
  a222 := Tryz.isAgg190
  z222 := Tryz.sizeOf190
  v222 := Tryz.zeroValue190
  t228 := Tryz.underlying218
  a228 := Tryz.isAgg218
  z228 := Tryz.sizeOf218
  v228 := Tryz.zeroValue218
  t229 := Tryz.underlying219
  a229 := Tryz.isAgg219
  z229 := Tryz.sizeOf219
  v229 := Tryz.zeroValue219 }
open Go.Sort Go.RowKit in
theorem Tryz.slices_Sort_string (blk off cap : Nat) (ss : List (List UInt8)) (w : World) (hH : Holds encStr w blk off ss.toArray) (hblk : blk < w.heap.size) (hsz : ss.length < 4611686018427387904) :
    Calls Tryz.prog 83 #[.slice (some ⟨blk, off, none⟩) ss.length cap] w fun e w' =>
      e = .returned (.tuple #[]) ∧ ∃ n os, w' = grow (putRow encStr (Sort.ahead w n) blk off (ss.mergeSort fun x y => decide (x ≤ y)).toArray) os := Any.slices_Sort_string Tryz.lays190 blk off cap ss w hH hblk hsz
open Go.RowKit Go.Sort in
/-- .. and plain. (LAID: no walk: one application.) -/
theorem Tryz.slices_Sort_string_none (p : Option Addr) (cap : Nat) (w : World) :
    Calls Tryz.prog 83 #[.slice p 0 cap] w fun e w' => e = .returned (.tuple #[]) ∧ w' = w := Any.slices_Sort_string_none Tryz.lays190 p cap w
end
end Go.Proofs
/- rlp: List, length, cut, Split (where they succeed). -/
namespace Go.Proofs.YtolhikjjchfnjaaGreatDoor
section
open Go Go.RowKit
set_option linter.unusedSimpArgs false
set_option linter.unusedVariables false

/-- A slice of strings that is read. -/
def RdS (w : World) (v : Value) (xs : List ByteArray) : Prop :=
  (∃ a c, v = .slice a 0 c ∧ xs = []) ∨ ∃ b o c, v = .slice (some ⟨b, o, none⟩) xs.length c ∧ b < w.heap.size ∧ xs.length ≤ c ∧ ∀ (j : Nat) x, xs[j]? = some x → w.cell? ⟨b, o + j, none⟩ = some (.string x)
theorem RdS.ext {w w' : World} {v : Value} {xs : List ByteArray} (h : RdS w v xs) (k : Ext w w') : RdS w' v xs := by
  rcases h with h | ⟨b, o, c, h1, h2, h3, h4⟩
  · exact .inl h
  · exact .inr ⟨b, o, c, h1, Nat.lt_of_lt_of_le h2 k.size, h3, fun j x hx => cell_ext (h4 j x hx) k⟩
abbrev SRow (w0 w : World) (v : Value) (n : Nat) (xs : List ByteArray) : Prop := ORow 9 1 w0 w v n (xs.map Value.string)
theorem SRow.rd {w0 w : World} {v : Value} {n : Nat} {xs : List ByteArray} (h : SRow w0 w v n xs) : RdS w v xs := by
  have hl : xs.length = n := by have := h.len; simpa using this
  obtain ⟨_, ⟨rfl, h2⟩ | ⟨g, cap, cur, rfl, h3, h4, h5, h6, h7⟩⟩ := h.own
  · exact .inl ⟨none, 0, rfl, List.eq_nil_of_length_eq_zero (by omega)⟩
  · subst hl
    refine .inr ⟨g, 0, cap, rfl, (Array.getElem?_eq_some_iff.1 h4).1, h5, fun j x hx => ?_⟩
    have hj := (List.getElem?_eq_some_iff.1 hx).1
    have := h.own.cellAt j (by omega)
    rw [Nat.zero_add, this, List.getElem?_map, hx]; rfl
def catB (xs : List ByteArray) : ByteArray := ⟨(xs.map (·.data.toList)).flatten.toArray⟩
def listB (xs : List ByteArray) : ByteArray := headB 192 (catB xs).size ++ catB xs
theorem join_nil : ∀ (l : List (List UInt8)), Lib.join l [] = l.flatten
  | [] => rfl
  | x :: r => by
    rw [Lib.join_cons]; simp only [Lib.joinTail, List.nil_append, List.map_id', List.flatten_cons]
theorem join_c (w : World) (v : Value) (xs : List ByteArray) (h : RdS w v xs) (hl : (catB xs).size ≤ 1000000000) (hn : xs.length ≤ 1000000000) : Calls Tryz.prog 153 #[v, .string ⟨#[]⟩] w fun e w' => e = .returned (.string (catB xs)) ∧ Ext w w' := by
  rcases h with ⟨a, c, rfl, rfl⟩ | ⟨b, o, c, rfl, h2, h3, h4⟩
  · exact (Tryz.strings_Join_none a c ⟨#[]⟩ w).mono fun e w' ⟨h1, h2⟩ => ⟨by rw [h1]; rfl, by rw [h2]; exact ExtR w⟩
  · have hle : (Lib.join (xs.map (·.data.toList)) (⟨#[]⟩ : ByteArray).data.toList).length ≤ 140737488355328 := by
      show (Lib.join (xs.map (·.data.toList)) []).length ≤ _
      rw [join_nil]; have : (xs.map (·.data.toList)).flatten.length = (catB xs).size := by simp [catB, ByteArray.size]
      omega
    exact (Tryz.strings_Join b o c xs ⟨#[]⟩ w h4 h2 (by omega) h3 hle).mono fun e w' ⟨h1, h2⟩ => ⟨by rw [h1]; show _ = Ending.returned (.string ⟨(xs.map (·.data.toList)).flatten.toArray⟩); rw [show (⟨#[]⟩ : ByteArray).data.toList = [] from rfl, join_nil], Keeps.of_below h2⟩
set_option maxRecDepth 100000 in
set_option maxHeartbeats 1000000 in
theorem list_c (w : World) (v : Value) (xs : List ByteArray) (h : RdS w v xs) (hl : (catB xs).size ≤ 1000000000) (hn : xs.length ≤ 1000000000) : Calls Tryz.prog 121 #[v] w fun e w' => e = .returned (.string (listB xs)) ∧ Ext w w' := by
  have H := Lib.hid h
  clear h
  go_enter Tryz.func121, Tryz.ntmps121
  go_wp2_with fail
  refine (join_c w v xs H.out hl hn).mono ?_
  rintro e w1 ⟨rfl, hE⟩
  go_wp2_with fail
  refine (head_c w1 192 (catB xs).size hl).mono ?_
  rintro e w2 ⟨rfl, hE2⟩
  have hsz := headB_size 192 (catB xs).size
  go_wp2
  go_ret
  exact ⟨rfl, hE.trans hE2⟩

/-- A number out of bytes, the highest first. -/
def beN (l : List UInt8) : Nat := l.foldl (fun n b => n * 256 + b.toNat) 0
theorem beN_snoc (l : List UInt8) (b : UInt8) : beN (l ++ [b]) = beN l * 256 + b.toNat := by simp [beN]
theorem beF_mono : ∀ (m : List UInt8) (a : Nat), a ≤ m.foldl (fun n b => n * 256 + b.toNat) a
  | [], _ => Nat.le_refl _
  | b :: m, a => Nat.le_trans (by omega) (beF_mono m (a * 256 + b.toNat))
theorem beN_mono (l m : List UInt8) : beN l ≤ beN (l ++ m) := by
  unfold beN; rw [List.foldl_append]; exact beF_mono m _
def lenB (s : ByteArray) (to : Nat) : Option Nat :=
  if s.size < to ∨ s.data.toList.getD 1 0 = 0 then none else
  if 55 < beN ((s.data.toList.take to).drop 1) ∧ beN ((s.data.toList.take to).drop 1) ≤ 1048576 then some (beN ((s.data.toList.take to).drop 1)) else none
theorem lenB_some {s : ByteArray} {to n : Nat} (h : lenB s to = some n) : to ≤ s.size ∧ s.data.toList.getD 1 0 ≠ 0 ∧ beN ((s.data.toList.take to).drop 1) = n ∧ 55 < n ∧ n ≤ 1048576 := by
  unfold lenB at h
  split at h
  · cases h
  rename_i hc
  simp only [not_or, Nat.not_lt] at hc
  split at h
  · rename_i hn
    have := Option.some.inj h
    exact ⟨hc.1, hc.2, this, by omega, by omega⟩
  · cases h

theorem or_byte (n : Nat) (b : UInt8) (hn : n ≤ 1048576) : bits .or .i64 ((n : Int) * 256) (b.toNat : Int) = ((n * 256 + b.toNat : Nat) : Int) := by
  have hb := b.toNat_lt
  unfold bits
  have e1 : BitVec.ofInt (IntKind.bits .i64) ((n : Int) * 256) = BitVec.ofNat 64 (n * 256) := by
    rw [show ((n : Int) * 256) = ((n * 256 : Nat) : Int) by omega, BitVec.ofInt_natCast]; rfl
  have e2 : BitVec.ofInt (IntKind.bits .i64) (b.toNat : Int) = BitVec.ofNat 64 b.toNat := by rw [BitVec.ofInt_natCast]; rfl
  simp only [e1, e2]
  have e3 : (BitVec.ofNat 64 (n * 256) ||| BitVec.ofNat 64 b.toNat).toNat = n * 256 + b.toNat := by
    rw [BitVec.toNat_or, BitVec.toNat_ofNat, BitVec.toNat_ofNat, Nat.mod_eq_of_lt (by omega), Nat.mod_eq_of_lt (by omega)]
    rw [show n * 256 = 2 ^ 8 * n by omega, Nat.two_pow_add_eq_or_of_lt (by omega : b.toNat < 2 ^ 8)]
  show IntKind.i64.wrap ((BitVec.ofNat 64 (n * 256) ||| BitVec.ofNat 64 b.toNat).toNat : Int) = _
  rw [e3, IntKind.wrap_i64]; omega

def LenRel (s : ByteArray) (to : Nat) (n i : Value) : Prop := ∃ k : Nat, 1 ≤ k ∧ k ≤ to ∧ i = .int .i64 k ∧ n = .int .i64 (beN ((s.data.toList.take k).drop 1))
theorem take_drop_snoc (s : ByteArray) {k : Nat} (h1 : 1 ≤ k) (h : k < s.size) : (s.data.toList.take (k + 1)).drop 1 = (s.data.toList.take k).drop 1 ++ [s[k]] := by
  have hl : k < s.data.toList.length := by simpa using h
  rw [List.take_succ_eq_append_getElem hl, List.drop_append_of_le_length (by simp; omega)]; rfl
set_option maxRecDepth 100000 in
set_option maxHeartbeats 1000000 in
theorem length_c (w : World) (s : ByteArray) (to n : Nat) (hs : s.size ≤ 1000000000) (h2 : 2 ≤ to) (h : lenB s to = some n) : Calls Tryz.prog 144 #[.string s, .int .i64 to] w fun e w' => e = .returned (.tuple #[.int .i64 n, .nilIface]) ∧ w = w' := by
  obtain ⟨hto, h1, hn, hn1, hn2⟩ := lenB_some h
  have HN := Lib.hid hn
  clear h hn
  have hz : ((s[1]'(by omega)).toNat : Int) ≠ 0 := by
    intro hh
    apply h1
    rw [List.getD_eq_getElem?_getD, List.getElem?_eq_getElem (by simp; omega)]
    have : (s[1]'(by omega)) = 0 := UInt8.toNat_inj.1 (by show _ = 0; omega)
    exact this
  have hz2 : (((s[1]'(by omega)).toNat : Int) == 0) = false := by simpa using hz
  clear h1 hz
  have c1 : (1 : Int) < (s.size : Int) := by omega
  go_enter Tryz.func144, Tryz.ntmps144
  go_wp2
  go_loop [6, 7] (fun m i => LenRel s to m i) (fun _ i => to - (intOf i).toNat)
  case atStart => exact ⟨1, Nat.le_refl _, by omega, rfl, by simp [beN]⟩
  case round =>
    obtain ⟨k, hk1, hk2, rfl, rfl⟩ := hrel
    by_cases hlt : k < to
    · have hks : k < s.size := by omega
      have c2 : (k : Int) < (s.size : Int) := by omega
      have hsn := take_drop_snoc s hk1 hks
      obtain ⟨m, hm⟩ : ∃ m, m = beN ((s.data.toList.take k).drop 1) := ⟨_, rfl⟩
      have hle : beN ((s.data.toList.take (k + 1)).drop 1) ≤ n := by
        have h3 := beN_mono ((s.data.toList.take (k + 1)).drop 1) ((s.data.toList.take to).drop (k + 1))
        have h4 : (s.data.toList.take (k + 1)).drop 1 ++ (s.data.toList.take to).drop (k + 1) = (s.data.toList.take to).drop 1 := by
          have e1 : s.data.toList.take to = s.data.toList.take (k + 1) ++ (s.data.toList.take to).drop (k + 1) := by
            conv => lhs; rw [← List.take_append_drop (k + 1) (s.data.toList.take to)]
            rw [List.take_take, Nat.min_eq_left (by omega)]
          conv => rhs; rw [e1]
          rw [List.drop_append_of_le_length (by simp; omega)]
        rw [h4] at h3
        have := HN.out; omega
      have hmn : m ≤ beN ((s.data.toList.take (k + 1)).drop 1) := by rw [hm, hsn]; exact beN_mono _ _
      have hm3 : m ≤ 1048576 := by omega
      have hor := or_byte m s[k] hm3
      have hor' : bits BinOp.or .i64 ((m : Int) * 256) (wrap64 (s[k].toNat : Int)) = ((m * 256 + s[k].toNat : Nat) : Int) := by
        have hb := s[k].toNat_lt
        rw [← hor]; congr 1; unfold wrap64; omega
      clear hor
      have e5 : beN ((s.data.toList.take (k + 1)).drop 1) = m * 256 + s[k].toNat := by rw [hsn, beN_snoc, ← hm]
      rw [e5] at hle
      have HM := Lib.hid hm
      have H5 := Lib.hid e5
      rw [← hm]
      clear hm hsn hmn e5
      obtain ⟨m', hm'⟩ : ∃ m', m' = m * 256 + s[k].toNat := ⟨_, rfl⟩
      rw [← hm'] at hor' hle
      have HM' := Lib.hid hm'
      clear hm'
      go_wp2
      go_round
      case rel => exact ⟨k + 1, by omega, by omega, by go_num, by rw [H5.out, HM'.out]⟩
      case measure => simp [intOf]; omega
    · have hkt : k = to := by omega
      subst hkt
      rw [HN.out]
      go_wp2
      go_ret2
      exact ⟨rfl, rfl⟩

theorem ne_empty {s : ByteArray} (h : 0 < s.size) : s.toList.isEmpty = false := by
  rw [ByteArray.toList_eq]
  obtain ⟨⟨l⟩⟩ := s
  cases l with
  | nil => exact absurd h (Nat.lt_irrefl 0)
  | cons _ _ => rfl
set_option maxRecDepth 100000 in
def CutRes (s : ByteArray) (r : Bool × Nat × Nat) : Value := .tuple #[.bool r.1, .string (s.extract r.2.1 (r.2.1 + r.2.2)), .string (s.extract (r.2.1 + r.2.2) s.size), .nilIface]
set_option maxRecDepth 100000 in
set_option maxHeartbeats 4000000 in
theorem cut_small (w : World) (s : ByteArray) (hs : s.size ≤ 1000000000) (h0 : 0 < s.size) (hc : (s[0].toNat : Int) < 128) : Calls Tryz.prog 112 #[.string s] w fun e w' => e = .returned (CutRes s (false, 0, 1)) ∧ Ext w w' := by
  have c0 : (0 : Int) < (s.size : Int) := by omega
  have c1 : (1 : Int) ≤ (s.size : Int) := by omega
  have hne := ne_empty h0
  go_enter Tryz.func112, Tryz.ntmps112
  go_wp2_with fail
  refine wp_region_mix [0,1,2,3,4,5,6,7] [] Ext ExtR ExtT (by kernel_rfl) (by kernel_rfl) (by kernel_rfl) ?_
  iterate 8 (refine mix_pure _ rfl (by kernel_rfl) rfl rfl (fun K hK => ?_); go_big_quiet_op; refine hK _ ?_; clear hK K)
  refine mix_end (by kernel_rfl) (fun w1 he => ?_)
  have HE := Lib.hid ((drewE w).trans he)
  clear he
  go_wp2
  exact bodyPost_ret (v := CutRes s (false, 0, 1)) (by simp [results, Tryz.results112, go_sem]; rfl) rfl ⟨rfl, HE.out⟩

set_option maxRecDepth 100000 in
set_option maxHeartbeats 4000000 in
theorem cut_text (w : World) (s : ByteArray) (n : Nat) (hs : s.size ≤ 1000000000) (h0 : 0 < s.size) (hc2 : (s[0].toNat : Int) = 128 + n) (hn : n ≤ 55) (hle : 1 + n ≤ s.size) (h1 : n ≠ 1 ∨ ∃ h : 1 < s.size, (128 : Int) ≤ (s[1].toNat : Int)) :
    Calls Tryz.prog 112 #[.string s] w fun e w' => e = .returned (CutRes s (false, 1, n)) ∧ Ext w w' := by
  have c0 : (0 : Int) < (s.size : Int) := by omega
  have c1 : (1 : Int) ≤ (s.size : Int) := by omega
  have c2 : ¬ (s[0].toNat : Int) < 128 := by omega
  have c3 : (s[0].toNat : Int) < 192 := by omega
  have c4 : (n : Int) ≤ 55 := by omega
  have c5 : (n : Int) ≤ (s.size : Int) - 1 := by omega
  have c6 : (0 : Int) ≤ 1 + (n : Int) := by omega
  have c7 : 1 + (n : Int) ≤ (s.size : Int) := by omega
  have c8 : (1 : Int) ≤ 1 + (n : Int) := by omega
  have c9 : (1 + (n : Int)).toNat = 1 + n := by omega
  have hne := ne_empty h0
  have e1 : (s[0].toNat : Int) - 128 = (n : Int) := by omega
  clear hc2
  rcases h1 with h1 | ⟨hs1, h1⟩
  · have hq : ((n : Int) == 1) = false := by simp; omega
    go_enter Tryz.func112, Tryz.ntmps112
    go_wp2_with fail
    refine wp_region_mix [0,1,2,3,4,5,6,7,8,9,10,11,12,13,14,15,16] [] Ext ExtR ExtT (by kernel_rfl) (by kernel_rfl) (by kernel_rfl) ?_
    iterate 17 (refine mix_pure _ rfl (by kernel_rfl) rfl rfl (fun K hK => ?_); go_big_quiet_op; refine hK _ ?_; clear hK K)
    refine mix_end (by kernel_rfl) (fun w1 he => ?_)
    have HE := Lib.hid ((drewE w).trans he)
    clear he
    go_wp2
    exact bodyPost_ret (v := CutRes s (false, 1, n)) (by simp [results, Tryz.results112, go_sem]; rfl) rfl ⟨rfl, HE.out⟩
  · have d0 : (1 : Int) < (s.size : Int) := by omega
    have d1 : ¬ (s[1].toNat : Int) < 128 := by omega
    by_cases hq0 : n = 1
    · have hq : ((n : Int) == 1) = true := by simp; omega
      clear hq0
      go_enter Tryz.func112, Tryz.ntmps112
      go_wp2_with fail
      refine wp_region_mix [0,1,2,3,4,5,6,7,8,9,10,11,12,13,14,15,16] [] Ext ExtR ExtT (by kernel_rfl) (by kernel_rfl) (by kernel_rfl) ?_
      iterate 17 (refine mix_pure _ rfl (by kernel_rfl) rfl rfl (fun K hK => ?_); go_big_quiet_op; refine hK _ ?_; clear hK K)
      refine mix_end (by kernel_rfl) (fun w1 he => ?_)
      have HE := Lib.hid ((drewE w).trans he)
      clear he
      go_wp2
      exact bodyPost_ret (v := CutRes s (false, 1, n)) (by simp [results, Tryz.results112, go_sem]; rfl) rfl ⟨rfl, HE.out⟩
    · have hq : ((n : Int) == 1) = false := by simp; omega
      go_enter Tryz.func112, Tryz.ntmps112
      go_wp2_with fail
      refine wp_region_mix [0,1,2,3,4,5,6,7,8,9,10,11,12,13,14,15,16] [] Ext ExtR ExtT (by kernel_rfl) (by kernel_rfl) (by kernel_rfl) ?_
      iterate 17 (refine mix_pure _ rfl (by kernel_rfl) rfl rfl (fun K hK => ?_); go_big_quiet_op; refine hK _ ?_; clear hK K)
      refine mix_end (by kernel_rfl) (fun w1 he => ?_)
      have HE := Lib.hid ((drewE w).trans he)
      clear he
      go_wp2
      exact bodyPost_ret (v := CutRes s (false, 1, n)) (by simp [results, Tryz.results112, go_sem]; rfl) rfl ⟨rfl, HE.out⟩
set_option maxRecDepth 100000 in
set_option maxHeartbeats 4000000 in
theorem cut_list (w : World) (s : ByteArray) (n : Nat) (hs : s.size ≤ 1000000000) (h0 : 0 < s.size) (hc2 : (s[0].toNat : Int) = 192 + n) (hn : n ≤ 55) (hle : 1 + n ≤ s.size) :
    Calls Tryz.prog 112 #[.string s] w fun e w' => e = .returned (CutRes s (true, 1, n)) ∧ Ext w w' := by
  have c0 : (0 : Int) < (s.size : Int) := by omega
  have c1 : (1 : Int) ≤ (s.size : Int) := by omega
  have c2 : ¬ (s[0].toNat : Int) < 128 := by omega
  have c3 : ¬ (s[0].toNat : Int) < 192 := by omega
  have c4 : (n : Int) ≤ 55 := by omega
  have c5 : (n : Int) ≤ (s.size : Int) - 1 := by omega
  have c6 : (0 : Int) ≤ 1 + (n : Int) := by omega
  have c7 : 1 + (n : Int) ≤ (s.size : Int) := by omega
  have c8 : (1 : Int) ≤ 1 + (n : Int) := by omega
  have c9 : (1 + (n : Int)).toNat = 1 + n := by omega
  have hne := ne_empty h0
  have e1 : (s[0].toNat : Int) - 192 = (n : Int) := by omega
  clear hc2
  go_enter Tryz.func112, Tryz.ntmps112
  go_wp2_with fail
  refine wp_region_mix [0,1,2,3,4,5,6,7,8,9,10,11,12,13,14,15,16] [] Ext ExtR ExtT (by kernel_rfl) (by kernel_rfl) (by kernel_rfl) ?_
  iterate 17 (refine mix_pure _ rfl (by kernel_rfl) rfl rfl (fun K hK => ?_); go_big_quiet_op; refine hK _ ?_; clear hK K)
  refine mix_end (by kernel_rfl) (fun w1 he => ?_)
  have HE := Lib.hid ((drewE w).trans he)
  clear he
  go_wp2
  exact bodyPost_ret (v := CutRes s (true, 1, n)) (by simp [results, Tryz.results112, go_sem]; rfl) rfl ⟨rfl, HE.out⟩
set_option maxRecDepth 100000 in
set_option maxHeartbeats 4000000 in
theorem cut_textL (w : World) (s : ByteArray) (k n : Nat) (hs : s.size ≤ 1000000000) (h0 : 0 < s.size) (hc2 : (s[0].toNat : Int) = 128 + 55 + k) (hk : 1 ≤ k) (hk8 : k ≤ 8) (hL : lenB s (1 + k) = some n) (hle : 1 + k + n ≤ s.size) :
    Calls Tryz.prog 112 #[.string s] w fun e w' => e = .returned (CutRes s (false, 1 + k, n)) ∧ Ext w w' := by
  obtain ⟨hto, _, _, hn1, hn2⟩ := lenB_some hL
  have HL := Lib.hid hL
  clear hL
  obtain ⟨f, hf⟩ : ∃ f, f = 1 + k := ⟨_, rfl⟩
  obtain ⟨m, hm⟩ : ∃ m, m = 55 + k := ⟨_, rfl⟩
  have HF := Lib.hid hf
  have c0 : (0 : Int) < (s.size : Int) := by omega
  have c1 : (1 : Int) ≤ (s.size : Int) := by omega
  have c2 : ¬ (s[0].toNat : Int) < 128 := by omega
  have c3 : (s[0].toNat : Int) < 192 := by omega
  have c4 : ¬ (m : Int) ≤ 55 := by omega
  have c4b : (55 : Int) < (m : Int) := by omega
  have c5 : (n : Int) ≤ (s.size : Int) - (f : Int) := by omega
  have c6 : (0 : Int) ≤ (f : Int) + (n : Int) := by omega
  have c7 : (f : Int) + (n : Int) ≤ (s.size : Int) := by omega
  have c8 : (f : Int) ≤ (f : Int) + (n : Int) := by omega
  have c9 : ((f : Int) + (n : Int)).toNat = f + n := by omega
  have hq : ((n : Int) == 1) = false := by simp; omega
  have hne := ne_empty h0
  have e1 : (s[0].toNat : Int) - 128 = (m : Int) := by omega
  have e2 : 1 + (m : Int) - 55 = (f : Int) := by omega
  have hf2 : 2 ≤ f := by omega
  have c10 : (m : Int) ≤ 63 := by omega
  have c11 : (0 : Int) ≤ (m : Int) := by omega
  rw [← hf] at HL
  rw [← hf]
  clear hc2 hf hm
  go_enter Tryz.func112, Tryz.ntmps112
  go_wp2_with fail
  refine (length_c w s f n hs hf2 HL.out).mono ?_
  rintro e w1 ⟨rfl, rfl⟩
  go_wp2_with fail
  refine wp_region_mix [0,1,2,3,4,5,6,7,8,9,10,11,12,13,14,15,16] [] Ext ExtR ExtT (by kernel_rfl) (by kernel_rfl) (by kernel_rfl) ?_
  iterate 17 (refine mix_pure _ rfl (by kernel_rfl) rfl rfl (fun K hK => ?_); go_big_quiet_op; refine hK _ ?_; clear hK K)
  refine mix_end (by kernel_rfl) (fun w1 he => ?_)
  have HE := Lib.hid ((drewE w).trans he)
  clear he
  go_wp2
  exact bodyPost_ret (v := CutRes s (false, f, n)) (by simp [results, Tryz.results112, go_sem]; rfl) rfl ⟨rfl, HE.out⟩
set_option maxRecDepth 100000 in
set_option maxHeartbeats 4000000 in
theorem cut_listL (w : World) (s : ByteArray) (k n : Nat) (hs : s.size ≤ 1000000000) (h0 : 0 < s.size) (hc2 : (s[0].toNat : Int) = 192 + 55 + k) (hk : 1 ≤ k) (hk8 : k ≤ 8) (hL : lenB s (1 + k) = some n) (hle : 1 + k + n ≤ s.size) :
    Calls Tryz.prog 112 #[.string s] w fun e w' => e = .returned (CutRes s (true, 1 + k, n)) ∧ Ext w w' := by
  obtain ⟨hto, _, _, hn1, hn2⟩ := lenB_some hL
  have HL := Lib.hid hL
  clear hL
  obtain ⟨f, hf⟩ : ∃ f, f = 1 + k := ⟨_, rfl⟩
  obtain ⟨m, hm⟩ : ∃ m, m = 55 + k := ⟨_, rfl⟩
  have HF := Lib.hid hf
  have c0 : (0 : Int) < (s.size : Int) := by omega
  have c1 : (1 : Int) ≤ (s.size : Int) := by omega
  have c2 : ¬ (s[0].toNat : Int) < 128 := by omega
  have c3 : ¬ (s[0].toNat : Int) < 192 := by omega
  have c4 : ¬ (m : Int) ≤ 55 := by omega
  have c4b : (55 : Int) < (m : Int) := by omega
  have c5 : (n : Int) ≤ (s.size : Int) - (f : Int) := by omega
  have c6 : (0 : Int) ≤ (f : Int) + (n : Int) := by omega
  have c7 : (f : Int) + (n : Int) ≤ (s.size : Int) := by omega
  have c8 : (f : Int) ≤ (f : Int) + (n : Int) := by omega
  have c9 : ((f : Int) + (n : Int)).toNat = f + n := by omega
  have hq : ((n : Int) == 1) = false := by simp; omega
  have hne := ne_empty h0
  have e1 : (s[0].toNat : Int) - 192 = (m : Int) := by omega
  have e2 : 1 + (m : Int) - 55 = (f : Int) := by omega
  have hf2 : 2 ≤ f := by omega
  have c10 : (m : Int) ≤ 63 := by omega
  have c11 : (0 : Int) ≤ (m : Int) := by omega
  rw [← hf] at HL
  rw [← hf]
  clear hc2 hf hm
  go_enter Tryz.func112, Tryz.ntmps112
  go_wp2_with fail
  refine (length_c w s f n hs hf2 HL.out).mono ?_
  rintro e w1 ⟨rfl, rfl⟩
  go_wp2_with fail
  refine wp_region_mix [0,1,2,3,4,5,6,7,8,9,10,11,12,13,14,15,16] [] Ext ExtR ExtT (by kernel_rfl) (by kernel_rfl) (by kernel_rfl) ?_
  iterate 17 (refine mix_pure _ rfl (by kernel_rfl) rfl rfl (fun K hK => ?_); go_big_quiet_op; refine hK _ ?_; clear hK K)
  refine mix_end (by kernel_rfl) (fun w1 he => ?_)
  have HE := Lib.hid ((drewE w).trans he)
  clear he
  go_wp2
  exact bodyPost_ret (v := CutRes s (true, f, n)) (by simp [results, Tryz.results112, go_sem]; rfl) rfl ⟨rfl, HE.out⟩

end
end Go.Proofs.YtolhikjjchfnjaaGreatDoor
/- rlp: cut in one, errors.Is of no error, Split (where it succeeds). -/
namespace Go.Proofs.YtolhikjjchfnjaaGreatDoor
section
open Go Go.RowKit
set_option linter.unusedSimpArgs false
set_option linter.unusedVariables false
/-- Where cut succeeds: whether a list, where what is in it begins, how long it is. -/
def cutN (s : ByteArray) : Option (Bool × Nat × Nat) :=
  if h : 0 < s.size then
    let b := s[0].toNat
    if b < 128 then some (false, 0, 1)
    else
      let (l, m) := if b < 192 then (false, b - 128) else (true, b - 192)
      if m ≤ 55 then
        if 1 + m ≤ s.size ∧ (l = true ∨ m ≠ 1 ∨ 128 ≤ (s.data.toList.getD 1 0).toNat) then some (l, 1, m) else none
      else match lenB s (1 + (m - 55)) with
        | some n => if 1 + (m - 55) + n ≤ s.size then some (l, 1 + (m - 55), n) else none
        | none => none
  else none
set_option maxRecDepth 10000 in
theorem cut_c (w : World) (s : ByteArray) (r : Bool × Nat × Nat) (hs : s.size ≤ 1000000000) (h : cutN s = some r) : Calls Tryz.prog 112 #[.string s] w fun e w' => e = .returned (CutRes s r) ∧ Ext w w' := by
  unfold cutN at h
  by_cases h0 : 0 < s.size
  · rw [dif_pos h0] at h
    simp only at h
    have hb := s[0].toNat_lt
    by_cases h1 : s[0].toNat < 128
    · rw [if_pos h1] at h
      cases h
      exact cut_small w s hs h0 (by omega)
    · rw [if_neg h1] at h
      by_cases h2 : s[0].toNat < 192
      · rw [if_pos h2] at h
        simp only at h
        by_cases h3 : s[0].toNat - 128 ≤ 55
        · rw [if_pos h3] at h
          split at h
          · rename_i hc
            cases h
            refine cut_text w s (s[0].toNat - 128) hs h0 (by omega) h3 hc.1 ?_
            rcases hc.2 with hc | hc | hc
            · cases hc
            · exact .inl hc
            · have h5 : 1 < s.size := by
                rcases Nat.lt_or_ge 1 s.size with h | h
                · exact h
                · rw [List.getD_eq_getElem?_getD, List.getElem?_eq_none (by simpa using h)] at hc
                  exact absurd hc (by decide)
              refine .inr ⟨h5, ?_⟩
              rw [List.getD_eq_getElem?_getD, List.getElem?_eq_getElem (by simpa using h5)] at hc
              have h6 : 128 ≤ (s[1]'h5).toNat := hc
              omega
          · cases h
        · rw [if_neg h3] at h
          split at h
          · rename_i n hl
            split at h
            · rename_i hc
              cases h
              exact cut_textL w s (s[0].toNat - 128 - 55) n hs h0 (by omega) (by omega) (by omega) hl hc
            · cases h
          · cases h
      · rw [if_neg h2] at h
        simp only at h
        by_cases h3 : s[0].toNat - 192 ≤ 55
        · rw [if_pos h3] at h
          split at h
          · rename_i hc
            cases h
            exact cut_list w s (s[0].toNat - 192) hs h0 (by omega) h3 hc.1
          · cases h
        · rw [if_neg h3] at h
          split at h
          · rename_i n hl
            split at h
            · rename_i hc
              cases h
              exact cut_listL w s (s[0].toNat - 192 - 55) n hs h0 (by omega) (by omega) (by omega) hl hc
            · cases h
          · cases h
  · rw [dif_neg h0] at h; cases h
set_option maxRecDepth 100000 in
set_option maxHeartbeats 1000000 in
theorem is_nil (w : World) : Calls Tryz.prog 113 #[.nilIface, .iface 25 (.int .i64 2)] w fun e w' => e = .returned (.bool false) ∧ w = w' := by
  have hq : ∀ w, (binOp .eql 139 .nilIface (.iface 25 (.int .i64 2))).run Tryz.prog w = .ok (.bool false) w := fun w => by kernel_rfl
  go_enter Tryz.func113, Tryz.ntmps113
  go_wp2_with fail
  go_ret
  exact ⟨rfl, rfl⟩
set_option maxRecDepth 100000 in
set_option maxHeartbeats 1000000 in
theorem split_c (w : World) (s : ByteArray) (r : Bool × Nat × Nat) (hs : s.size ≤ 1000000000) (h : cutN s = some r) : Calls Tryz.prog 86 #[.string s] w fun e w' => e = .returned (.tuple #[.bool r.1, .string (s.extract r.2.1 (r.2.1 + r.2.2)), .string (s.extract (r.2.1 + r.2.2) s.size), .int .i64 0]) ∧ Ext w w' := by
  go_enter Tryz.func86, Tryz.ntmps86
  go_wp2_with fail
  refine (cut_c w s r hs h).mono ?_
  rintro e w1 ⟨rfl, hE⟩
  unfold CutRes
  obtain ⟨x, hx⟩ : ∃ x, x = s.extract r.2.1 (r.2.1 + r.2.2) := ⟨_, rfl⟩
  obtain ⟨y, hy⟩ : ∃ x, x = s.extract (r.2.1 + r.2.2) s.size := ⟨_, rfl⟩
  rw [← hx, ← hy]
  obtain ⟨l, p⟩ := r
  have HE := Lib.hid hE
  have HX := Lib.hid hx
  have HY := Lib.hid hy
  clear hE h hx hy hs
  simp only
  go_wp2_with fail
  refine (is_nil w1).mono ?_
  rintro e w2 ⟨rfl, rfl⟩
  go_wp2_with fail
  exact bodyPost_ret (v := .tuple #[.bool l, .string x, .string y, .int .i64 0]) (by kernel_rfl) rfl ⟨by rw [HX.out, HY.out], HE.out⟩
end
end Go.Proofs.YtolhikjjchfnjaaGreatDoor
/- Words of 32 bits in a walk: each operation's value as a word. -/
namespace Go.Proofs.YtolhikjjchfnjaaGreatDoor
section
open Go Go.RowKit
set_option linter.unusedSimpArgs false
set_option linter.unusedVariables false
theorem Tryz.uU32 : Tryz.prog.underlying 110 = some (.int .u32) := by kernel_rfl
theorem Tryz.iU32 : (Tryz.prog.info? 110).map (·.size) = some 1 := by kernel_rfl
def addW (p q : UInt32) : UInt32 := p + q
def xorW (p q : UInt32) : UInt32 := p ^^^ q
def andW (p q : UInt32) : UInt32 := p &&& q
def orW (p q : UInt32) : UInt32 := p ||| q
def notW (p : UInt32) : UInt32 := ~~~ p
def shrW (p : UInt32) (n : UInt32) : UInt32 := p >>> n
def shlW (p : UInt32) (n : UInt32) : UInt32 := p <<< n
def rotW (p : UInt32) (n : UInt32) : UInt32 := (p <<< (32 - n)) ||| (p >>> n)
/-- A word as a value. -/
def wv (p : UInt32) : Value := .int .u32 (p.toNat : Int)

theorem ofInt_u32 (a : UInt32) : BitVec.ofInt (IntKind.bits .u32) (a.toNat : Int) = a.toBitVec := by
  show BitVec.ofInt 32 ((a.toNat : Nat) : Int) = _
  rw [BitVec.ofInt_natCast]; simp
theorem wrap_u32' (a : UInt32) : IntKind.u32.wrap (a.toNat : Int) = a.toNat := by rw [IntKind.wrap_u32]; have := a.toNat_lt; omega

section
variable {P : Program} {w : World} {T : TypeId} {p q : UInt32}
theorem run_addW : (binOp .add T (wv p) (wv q)).run P w = .ok (wv (addW p q)) w := by
  have e : IntKind.u32.wrap ((p.toNat : Int) + (q.toNat : Int)) = ((addW p q).toNat : Int) := by
    rw [IntKind.wrap_u32, addW, UInt32.toNat_add]; omega
  unfold wv; rw [← e]; rfl
theorem run_xorW : (binOp .xor T (wv p) (wv q)).run P w = .ok (wv (xorW p q)) w := by
  have e : bits .xor .u32 p.toNat q.toNat = ((xorW p q).toNat : Int) := by
    unfold bits; rw [ofInt_u32, ofInt_u32]; exact wrap_u32' (p ^^^ q)
  unfold wv; rw [← e]; rfl
theorem run_andW : (binOp .and T (wv p) (wv q)).run P w = .ok (wv (andW p q)) w := by
  have e : bits .and .u32 p.toNat q.toNat = ((andW p q).toNat : Int) := by
    unfold bits; rw [ofInt_u32, ofInt_u32]; exact wrap_u32' (p &&& q)
  unfold wv; rw [← e]; rfl
theorem run_orW : (binOp .or T (wv p) (wv q)).run P w = .ok (wv (orW p q)) w := by
  have e : bits .or .u32 p.toNat q.toNat = ((orW p q).toNat : Int) := by
    unfold bits; rw [ofInt_u32, ofInt_u32]; exact wrap_u32' (p ||| q)
  unfold wv; rw [← e]; rfl
theorem run_shrW (n : Nat) (hn : n < 32) (k : IntKind) : (binOp .shr T (wv p) (.int k n)).run P w = .ok (wv (shrW p (UInt32.ofNat n))) w := by
  have e : ((shrW p (UInt32.ofNat n)).toNat : Int) = (p.toNat : Int).fdiv (2 ^ n) := by
    unfold shrW
    rw [UInt32.toNat_shiftRight, UInt32.toNat_ofNat', Nat.mod_eq_of_lt (show n < 2 ^ 32 by omega), Nat.mod_eq_of_lt hn, Nat.shiftRight_eq_div_pow]
    rw [Int.fdiv_eq_ediv_of_nonneg _ (by exact_mod_cast Nat.zero_le (2 ^ n))]
    simp
  unfold wv; rw [e]
  show (Op.shift .shr .u32 (p.toNat : Int) k (n : Int)).run P w = _
  unfold Op.shift
  rw [if_neg (by omega)]
  have h : min (n : Int).toNat (IntKind.bits .u32) = n := by show min (n : Int).toNat 32 = n; omega
  simp only [h]
  rfl
theorem run_notW : (Op.unary .xor (wv p)).run P w = .ok (wv (notW p)) w := by
  have e : bits .xor .u32 (IntKind.max .u32) p.toNat = ((notW p).toNat : Int) := by
    have e1 : (IntKind.max .u32 : Int) = ((0xFFFFFFFF : UInt32).toNat : Int) := rfl
    rw [e1]; unfold bits; rw [ofInt_u32, ofInt_u32]
    have : (0xFFFFFFFF : UInt32) ^^^ p = notW p := by
      unfold notW
      apply UInt32.toBitVec_inj.1
      show (BitVec.allOnes 32) ^^^ p.toBitVec = ~~~ p.toBitVec
      rw [BitVec.allOnes_xor]
    have h2 := wrap_u32' ((0xFFFFFFFF : UInt32) ^^^ p)
    rw [this] at h2
    rw [← h2, ← this]; rfl
  unfold wv; rw [← e]; rfl
end

section
variable {P : Program} {l : List Oper} {E : World → World → Prop} {Q : Act → World → Prop} {ord done hd : List Nat} {a : Act} {w : World} {k : Nat} {d : Option Tmp} {x y : Operand} {T T' ty : TypeId} {pos : String} {af : Array Edge} {g : Option (Nat × Bool)} {op : BinOp} {ops : Array Oper} {rest : List Oper} {QQ : Exit → Act → World → Prop}
theorem exec_bin {vx vy v : Value} (hx : a.eval x = vx) (hy : a.eval y = vy) (hg : (eqGuard op T x y vx vy).run P w = .ok () w) (hr : (binOp op T vx vy).run P w = .ok v w) : (execOp a.eval ⟨d, .binOp op T x y T', ty, pos, af, g⟩).run P w = .ok (.value v) w := by
  simp only [execOp, hx, hy, Sem.run_bind, Sem.run_pure, Result.andThen, hg, hr]
theorem exec_un {vx v : Value} {uo : UnOp} (hx : a.eval x = vx) (hr : (Op.unary uo vx).run P w = .ok v w) : (execOp a.eval ⟨d, .unOp uo T x, ty, pos, af, g⟩).run P w = .ok (.value v) w := by
  simp only [execOp, hx, Sem.run_bind, Sem.run_pure, Result.andThen, hr]
theorem mix_bin (vx vy v : Value) (ho : l[k]? = some ⟨d, .binOp op T x y T', ty, pos, af, g⟩) (hk : readOk l hd done k = true) (hw : Region.wanted ⟨d, .binOp op T x y T', ty, pos, af, g⟩ (yielded l.toArray a.tmps) = true) (hx : a.eval x = vx) (hy : a.eval y = vy) (hg : ∀ w1, (eqGuard op T x y vx vy).run P w1 = .ok () w1)
    (hr : ∀ w1, (binOp op T vx vy).run P w1 = .ok v w1) (h : Mix P l hd E Q ord (k :: done) (a.put d v) w) : Mix P l hd E Q (k :: ord) done a w :=
  mix_val _ v ho hk hw (fun w1 _ => exec_bin hx hy (hg w1) (hr w1)) h
theorem mix_un (vx v : Value) {uo : UnOp} (ho : l[k]? = some ⟨d, .unOp uo T x, ty, pos, af, g⟩) (hk : readOk l hd done k = true) (hw : Region.wanted ⟨d, .unOp uo T x, ty, pos, af, g⟩ (yielded l.toArray a.tmps) = true) (hx : a.eval x = vx)
    (hr : ∀ w1, (Op.unary uo vx).run P w1 = .ok v w1) (h : Mix P l hd E Q ord (k :: done) (a.put d v) w) : Mix P l hd E Q (k :: ord) done a w :=
  mix_val _ v ho hk hw (fun w1 _ => exec_un hx (hr w1)) h
theorem lin_bin (vx vy v : Value) (hx : a.eval x = vx) (hy : a.eval y = vy) (hg : ∀ w1, (eqGuard op T x y vx vy).run P w1 = .ok () w1) (hr : ∀ w1, (binOp op T vx vy).run P w1 = .ok v w1) (h : wpList P ops QQ rest (a.put d v) w) : wpList P ops QQ (⟨d, .binOp op T x y T', ty, pos, af, none⟩ :: rest) a w :=
  wpList_plain rfl fun K hK => wp_value (exec_bin hx hy (hg w) (hr w)) (hK _ _ h)
theorem lin_un (vx v : Value) {uo : UnOp} (hx : a.eval x = vx) (hr : ∀ w1, (Op.unary uo vx).run P w1 = .ok v w1) (h : wpList P ops QQ rest (a.put d v) w) : wpList P ops QQ (⟨d, .unOp uo T x, ty, pos, af, none⟩ :: rest) a w :=
  wpList_plain rfl fun K hK => wp_value (exec_un hx (hr w)) (hK _ _ h)
end
/-- A store of a value of one cell. -/
theorem wp_store {P : Program} {o : Oper} {a : Act} {w : World} {K : Act → World → Prop} {Q : Exit → Act → World → Prop} {t : TypeId} {x y : Operand} (b i : Nat) (v : Value) (ho : o.op = .store t x y) (hx : a.eval x = .pointer (some ⟨b, i, none⟩)) (hy : a.eval y = v) (hv : v.oneCell' = true)
    (hi : (P.info? t).map (·.size) = some 1) {old : Value} (hc : w.cell? ⟨b, i, none⟩ = some old) (hf : w.frozen? ⟨b, i, none⟩ = false) (h : K (a.put o.dst undef) (w.setCell ⟨b, i, none⟩ v)) : o.wp P a w K Q := by
  obtain ⟨inf, hi1, hi2⟩ := Option.map_eq_some_iff.1 hi
  have hs : (storeCells ⟨b, i, none⟩ [v]).run P w = .ok () (w.setCell ⟨b, i, none⟩ v) := by
    rw [store_one, run_store P w _ v _ hv, hc, hf]; rfl
  have hr : (Instr.storeAt t (.pointer (some ⟨b, i, none⟩)) v).run P w = .ok () (w.setCell ⟨b, i, none⟩ v) := by
    simp [Instr.storeAt, Instr.sureAddr, storeVar, Sem.run_bind, Result.andThen, one_cells hv, sizeOf, typeInfo, hi1, hi2, hs]
  unfold Oper.wp execOp
  simp only [ho, hx, hy, Sem.run_bind, hr, Result.andThen, Sem.run_pure]
  exact h
theorem wpList_store {P : Program} {ops : Array Oper} {rest : List Oper} {o : Oper} {a : Act} {w : World} {Q : Exit → Act → World → Prop} {t : TypeId} {x y : Operand} (hgd : o.guard = none) (b i : Nat) (v : Value) (ho : o.op = .store t x y) (hx : a.eval x = .pointer (some ⟨b, i, none⟩)) (hy : a.eval y = v) (hv : v.oneCell' = true)
    (hi : (P.info? t).map (·.size) = some 1) {old : Value} (hc : w.cell? ⟨b, i, none⟩ = some old) (hf : w.frozen? ⟨b, i, none⟩ = false) (h : wpList P ops Q rest (a.put o.dst undef) (w.setCell ⟨b, i, none⟩ v)) : wpList P ops Q (o :: rest) a w :=
  wpList_plain hgd fun _ hK => wp_store b i v ho hx hy hv hi hc hf (hK _ _ h)
theorem bits_orW (p q : UInt32) : bits .or .u32 p.toNat q.toNat = ((p ||| q).toNat : Int) := by
  unfold bits; rw [ofInt_u32, ofInt_u32]; exact wrap_u32' (p ||| q)
theorem rot_eq (x : UInt32) (s n : Nat) (hs : s + n = 32) (hn : 0 < n) (hn2 : n < 32) : bits .or .u32 ((x.toNat : Int) * (2 : Int) ^ s % (4294967296 : Int)) ((x.toNat : Int) / (2 : Int) ^ n) = ((rotW x (UInt32.ofNat n)).toNat : Int) := by
  have e1 : (x.toNat : Int) * (2 : Int) ^ s % (4294967296 : Int) = ((x <<< (32 - UInt32.ofNat n)).toNat : Int) := by
    rw [UInt32.toNat_shiftLeft]
    have h1 : (32 - UInt32.ofNat n).toNat = s := by
      rw [UInt32.toNat_sub_of_le]
      · rw [UInt32.toNat_ofNat']; show 32 - n % 2 ^ 32 = s; omega
      · rw [UInt32.le_iff_toNat_le, UInt32.toNat_ofNat']; show n % 2 ^ 32 ≤ 32; omega
    rw [h1, Nat.mod_eq_of_lt (show s < 32 by omega), Nat.shiftLeft_eq]
    simp
  have e2 : (x.toNat : Int) / (2 : Int) ^ n = ((x >>> UInt32.ofNat n).toNat : Int) := by
    rw [UInt32.toNat_shiftRight]
    rw [UInt32.toNat_ofNat', Nat.mod_eq_of_lt (show n < 2 ^ 32 by omega), Nat.mod_eq_of_lt hn2, Nat.shiftRight_eq_div_pow]
    simp
  rw [e1, e2, bits_orW]; rfl
set_option maxRecDepth 100000 in
set_option maxHeartbeats 1000000 in
theorem right2 (w : World) (x : UInt32) : Calls Tryz.prog 123 #[wv x, .int .i64 2] w fun e w' => e = .returned (wv (rotW x 2)) ∧ w = w' := by
  have e : bits BinOp.and .u64 (IntKind.u64.wrap (-2)) 31 = 30 := by decide +kernel
  have HR := Lib.hid (rot_eq x 30 2 (by decide) (by decide) (by decide))
  unfold wv
  go_enter Tryz.func123, Tryz.ntmps123
  go_wp2
  go_ret
  have h2 : bits .or .u32 ((x.toNat : Int) * (1073741824 : Int) % (4294967296 : Int)) ((x.toNat : Int) / (4 : Int)) = ((rotW x 2).toNat : Int) := HR.out
  exact ⟨congrArg (fun z => Ending.returned (Value.int .u32 z)) h2, rfl⟩
set_option maxRecDepth 100000 in
set_option maxHeartbeats 1000000 in
theorem right3 (w : World) (x : UInt32) : Calls Tryz.prog 123 #[wv x, .int .i64 3] w fun e w' => e = .returned (wv (rotW x 3)) ∧ w = w' := by
  have e : bits BinOp.and .u64 (IntKind.u64.wrap (-3)) 31 = 29 := by decide +kernel
  have HR := Lib.hid (rot_eq x 29 3 (by decide) (by decide) (by decide))
  unfold wv
  go_enter Tryz.func123, Tryz.ntmps123
  go_wp2
  go_ret
  have h2 : bits .or .u32 ((x.toNat : Int) * (536870912 : Int) % (4294967296 : Int)) ((x.toNat : Int) / (8 : Int)) = ((rotW x 3).toNat : Int) := HR.out
  exact ⟨congrArg (fun z => Ending.returned (Value.int .u32 z)) h2, rfl⟩
set_option maxRecDepth 100000 in
set_option maxHeartbeats 1000000 in
theorem right6 (w : World) (x : UInt32) : Calls Tryz.prog 123 #[wv x, .int .i64 6] w fun e w' => e = .returned (wv (rotW x 6)) ∧ w = w' := by
  have e : bits BinOp.and .u64 (IntKind.u64.wrap (-6)) 31 = 26 := by decide +kernel
  have HR := Lib.hid (rot_eq x 26 6 (by decide) (by decide) (by decide))
  unfold wv
  go_enter Tryz.func123, Tryz.ntmps123
  go_wp2
  go_ret
  have h2 : bits .or .u32 ((x.toNat : Int) * (67108864 : Int) % (4294967296 : Int)) ((x.toNat : Int) / (64 : Int)) = ((rotW x 6).toNat : Int) := HR.out
  exact ⟨congrArg (fun z => Ending.returned (Value.int .u32 z)) h2, rfl⟩
set_option maxRecDepth 100000 in
set_option maxHeartbeats 1000000 in
theorem right7 (w : World) (x : UInt32) : Calls Tryz.prog 123 #[wv x, .int .i64 7] w fun e w' => e = .returned (wv (rotW x 7)) ∧ w = w' := by
  have e : bits BinOp.and .u64 (IntKind.u64.wrap (-7)) 31 = 25 := by decide +kernel
  have HR := Lib.hid (rot_eq x 25 7 (by decide) (by decide) (by decide))
  unfold wv
  go_enter Tryz.func123, Tryz.ntmps123
  go_wp2
  go_ret
  have h2 : bits .or .u32 ((x.toNat : Int) * (33554432 : Int) % (4294967296 : Int)) ((x.toNat : Int) / (128 : Int)) = ((rotW x 7).toNat : Int) := HR.out
  exact ⟨congrArg (fun z => Ending.returned (Value.int .u32 z)) h2, rfl⟩
set_option maxRecDepth 100000 in
set_option maxHeartbeats 1000000 in
theorem right10 (w : World) (x : UInt32) : Calls Tryz.prog 123 #[wv x, .int .i64 10] w fun e w' => e = .returned (wv (rotW x 10)) ∧ w = w' := by
  have e : bits BinOp.and .u64 (IntKind.u64.wrap (-10)) 31 = 22 := by decide +kernel
  have HR := Lib.hid (rot_eq x 22 10 (by decide) (by decide) (by decide))
  unfold wv
  go_enter Tryz.func123, Tryz.ntmps123
  go_wp2
  go_ret
  have h2 : bits .or .u32 ((x.toNat : Int) * (4194304 : Int) % (4294967296 : Int)) ((x.toNat : Int) / (1024 : Int)) = ((rotW x 10).toNat : Int) := HR.out
  exact ⟨congrArg (fun z => Ending.returned (Value.int .u32 z)) h2, rfl⟩
set_option maxRecDepth 100000 in
set_option maxHeartbeats 1000000 in
theorem right11 (w : World) (x : UInt32) : Calls Tryz.prog 123 #[wv x, .int .i64 11] w fun e w' => e = .returned (wv (rotW x 11)) ∧ w = w' := by
  have e : bits BinOp.and .u64 (IntKind.u64.wrap (-11)) 31 = 21 := by decide +kernel
  have HR := Lib.hid (rot_eq x 21 11 (by decide) (by decide) (by decide))
  unfold wv
  go_enter Tryz.func123, Tryz.ntmps123
  go_wp2
  go_ret
  have h2 : bits .or .u32 ((x.toNat : Int) * (2097152 : Int) % (4294967296 : Int)) ((x.toNat : Int) / (2048 : Int)) = ((rotW x 11).toNat : Int) := HR.out
  exact ⟨congrArg (fun z => Ending.returned (Value.int .u32 z)) h2, rfl⟩
set_option maxRecDepth 100000 in
set_option maxHeartbeats 1000000 in
theorem right13 (w : World) (x : UInt32) : Calls Tryz.prog 123 #[wv x, .int .i64 13] w fun e w' => e = .returned (wv (rotW x 13)) ∧ w = w' := by
  have e : bits BinOp.and .u64 (IntKind.u64.wrap (-13)) 31 = 19 := by decide +kernel
  have HR := Lib.hid (rot_eq x 19 13 (by decide) (by decide) (by decide))
  unfold wv
  go_enter Tryz.func123, Tryz.ntmps123
  go_wp2
  go_ret
  have h2 : bits .or .u32 ((x.toNat : Int) * (524288 : Int) % (4294967296 : Int)) ((x.toNat : Int) / (8192 : Int)) = ((rotW x 13).toNat : Int) := HR.out
  exact ⟨congrArg (fun z => Ending.returned (Value.int .u32 z)) h2, rfl⟩
set_option maxRecDepth 100000 in
set_option maxHeartbeats 1000000 in
theorem right17 (w : World) (x : UInt32) : Calls Tryz.prog 123 #[wv x, .int .i64 17] w fun e w' => e = .returned (wv (rotW x 17)) ∧ w = w' := by
  have e : bits BinOp.and .u64 (IntKind.u64.wrap (-17)) 31 = 15 := by decide +kernel
  have HR := Lib.hid (rot_eq x 15 17 (by decide) (by decide) (by decide))
  unfold wv
  go_enter Tryz.func123, Tryz.ntmps123
  go_wp2
  go_ret
  have h2 : bits .or .u32 ((x.toNat : Int) * (32768 : Int) % (4294967296 : Int)) ((x.toNat : Int) / (131072 : Int)) = ((rotW x 17).toNat : Int) := HR.out
  exact ⟨congrArg (fun z => Ending.returned (Value.int .u32 z)) h2, rfl⟩
set_option maxRecDepth 100000 in
set_option maxHeartbeats 1000000 in
theorem right18 (w : World) (x : UInt32) : Calls Tryz.prog 123 #[wv x, .int .i64 18] w fun e w' => e = .returned (wv (rotW x 18)) ∧ w = w' := by
  have e : bits BinOp.and .u64 (IntKind.u64.wrap (-18)) 31 = 14 := by decide +kernel
  have HR := Lib.hid (rot_eq x 14 18 (by decide) (by decide) (by decide))
  unfold wv
  go_enter Tryz.func123, Tryz.ntmps123
  go_wp2
  go_ret
  have h2 : bits .or .u32 ((x.toNat : Int) * (16384 : Int) % (4294967296 : Int)) ((x.toNat : Int) / (262144 : Int)) = ((rotW x 18).toNat : Int) := HR.out
  exact ⟨congrArg (fun z => Ending.returned (Value.int .u32 z)) h2, rfl⟩
set_option maxRecDepth 100000 in
set_option maxHeartbeats 1000000 in
theorem right19 (w : World) (x : UInt32) : Calls Tryz.prog 123 #[wv x, .int .i64 19] w fun e w' => e = .returned (wv (rotW x 19)) ∧ w = w' := by
  have e : bits BinOp.and .u64 (IntKind.u64.wrap (-19)) 31 = 13 := by decide +kernel
  have HR := Lib.hid (rot_eq x 13 19 (by decide) (by decide) (by decide))
  unfold wv
  go_enter Tryz.func123, Tryz.ntmps123
  go_wp2
  go_ret
  have h2 : bits .or .u32 ((x.toNat : Int) * (8192 : Int) % (4294967296 : Int)) ((x.toNat : Int) / (524288 : Int)) = ((rotW x 19).toNat : Int) := HR.out
  exact ⟨congrArg (fun z => Ending.returned (Value.int .u32 z)) h2, rfl⟩
set_option maxRecDepth 100000 in
set_option maxHeartbeats 1000000 in
theorem right22 (w : World) (x : UInt32) : Calls Tryz.prog 123 #[wv x, .int .i64 22] w fun e w' => e = .returned (wv (rotW x 22)) ∧ w = w' := by
  have e : bits BinOp.and .u64 (IntKind.u64.wrap (-22)) 31 = 10 := by decide +kernel
  have HR := Lib.hid (rot_eq x 10 22 (by decide) (by decide) (by decide))
  unfold wv
  go_enter Tryz.func123, Tryz.ntmps123
  go_wp2
  go_ret
  have h2 : bits .or .u32 ((x.toNat : Int) * (1024 : Int) % (4294967296 : Int)) ((x.toNat : Int) / (4194304 : Int)) = ((rotW x 22).toNat : Int) := HR.out
  exact ⟨congrArg (fun z => Ending.returned (Value.int .u32 z)) h2, rfl⟩
set_option maxRecDepth 100000 in
set_option maxHeartbeats 1000000 in
theorem right25 (w : World) (x : UInt32) : Calls Tryz.prog 123 #[wv x, .int .i64 25] w fun e w' => e = .returned (wv (rotW x 25)) ∧ w = w' := by
  have e : bits BinOp.and .u64 (IntKind.u64.wrap (-25)) 31 = 7 := by decide +kernel
  have HR := Lib.hid (rot_eq x 7 25 (by decide) (by decide) (by decide))
  unfold wv
  go_enter Tryz.func123, Tryz.ntmps123
  go_wp2
  go_ret
  have h2 : bits .or .u32 ((x.toNat : Int) * (128 : Int) % (4294967296 : Int)) ((x.toNat : Int) / (33554432 : Int)) = ((rotW x 25).toNat : Int) := HR.out
  exact ⟨congrArg (fun z => Ending.returned (Value.int .u32 z)) h2, rfl⟩
end
end Go.Proofs.YtolhikjjchfnjaaGreatDoor
