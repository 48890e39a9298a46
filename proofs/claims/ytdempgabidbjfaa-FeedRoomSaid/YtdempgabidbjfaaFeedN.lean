/- The feed's laws: their walks. -/
import Derived.Test.YtdempgabidbjfaaFeedM
import Derived.Deep.QuietTactic
import Derived.BigQuiet
namespace Go.Proofs.Ytdempgabidbjfaa
open Go Go.RowKit
set_option linter.unusedSimpArgs false
set_option linter.unusedVariables false

def LawPost (w : World) (e : Ending) (w' : World) : Prop := e = .returned (.bool true) ∧ Below w.heap.size w w'

theorem LawPost.of {w w' : World} (k : Keeps (fun b => w.heap.size ≤ b) w w') : LawPost w (.returned (.bool true)) w' := ⟨rfl, k.below (Nat.le_refl _) (fun x hx h => by omega)⟩

abbrev Old (w : World) : BSet := fun b => b < w.heap.size
abbrev New' (w : World) : BSet := fun b => w.heap.size ≤ b

theorem ActsAt.keeps {w wr : World} {v : Value} {n : Nat} {acts : Nat → Int × Int × Int × List UInt8} (h : ActsAt w v n acts) (k : Keeps (New' w) w wr) : ActsAt wr v n acts := by
  obtain ⟨a, c, rfl, hn, hc⟩ := h
  refine ⟨a, c, rfl, hn, fun i hi => ?_⟩
  obtain ⟨b, o, rfl, hb, h0, h1, h2, h3, h4⟩ := hc i hi
  have e : ∀ j, wr.cell? ⟨b, j, none⟩ = w.cell? ⟨b, j, none⟩ := fun j => by
    have := k.block b hb (by show ¬ _ ≤ _; omega)
    simp only [World.cell?, this]
  exact ⟨b, o, rfl, Nat.lt_of_lt_of_le hb k.size, by rw [e, h0], by rw [e, h1], by rw [e, h2], by rw [e, h3], h4⟩

/-- The laws' loop over the acts. -/
def ActRel (w : World) (bf bm : Nat) (R : Int) (n : Nat) (i : Value) (wr : World) : Prop :=
  ∃ k A, k ≤ n ∧ i = .int .i64 k ∧ FV (Old w) wr bf bm R A ∧ A.length ≤ k ∧ Keeps (New' w) w wr

theorem getA_rem_self (A : List AQ) (s : Int) : getA (remA A s) s = none := by
  unfold getA remA
  rw [Option.map_eq_none_iff, List.find?_eq_none]
  intro x hx
  have := (List.mem_filter.1 hx).2
  simpa using this
theorem nfol_rem {A : List AQ} {s : Int} (h : followsV A s = true) : nfolV (remA A s) < nfolV A := by
  unfold followsV at h
  cases hg : getA A s with
  | none => rw [hg] at h; simp at h
  | some v =>
    rw [hg] at h
    unfold getA at hg
    cases hf : A.find? (fun x => decide (s = x.1)) with
    | none => rw [hf] at hg; cases hg
    | some x =>
      rw [hf] at hg
      have hx : s = x.1 := by simpa using List.find?_some hf
      have hm := List.mem_of_find?_eq_some hf
      have hv : x.2 = v := by simpa using hg
      unfold nfolV remA
      have e1 : (A.filter (fun x => decide (s ≠ x.1))).filter (·.2.1) = (A.filter (·.2.1)).filter (fun x => decide (s ≠ x.1)) := by
        rw [List.filter_filter, List.filter_filter]; congr 1; funext y; exact Bool.and_comm _ _
      rw [e1]
      refine List.length_filter_lt_length_iff_exists.2 ⟨x, List.mem_filter.2 ⟨hm, ?_⟩, by simp [hx]⟩
      rw [hv]; simpa using h
theorem waits_sub {A : List AQ} {s : Int} (h : getA A s = none) (b : Bool) : waitsV (if b then subA A s else A) s = 0 := by
  cases b with
  | false => simp [waitsV, h]
  | true =>
    simp only [if_true, subA, h]
    unfold waitsV getA
    rw [List.find?_append]
    unfold getA at h
    rw [Option.map_eq_none_iff] at h
    rw [h]; simp
theorem mem_orderV {A : List AQ} {x : Int} : x ∈ orderV A ↔ x ∈ A.map (·.1) := (List.mergeSort_perm (A.map (·.1)) _).mem_iff
theorem orderV_len (A : List AQ) : (orderV A).length = A.length := by simp [orderV, sorted]
theorem getA_none_iff {A : List AQ} {s : Int} (h : getA A s = none) : s ∉ orderV A := fun hm => by
  rw [mem_orderV] at hm
  obtain ⟨x, hx, e⟩ := List.mem_map.1 hm
  unfold getA at h
  rw [Option.map_eq_none_iff, List.find?_eq_none] at h
  have := h x hx
  simp at this; exact this e.symm

set_option maxHeartbeats 2000000 in
theorem forgets_c {w : World} {v : Value} {n : Nat} {acts : Nat → Int × Int × Int × List UInt8} (h : ActsAt w v n acts) (room s : Int) (hs : -9223372036854775808 ≤ s ∧ s ≤ 9223372036854775807) :
    Calls Try.prog 5 #[.int .i64 room, v, .int .i64 s] w (LawPost w) := by
  have HA := Lib.hid h
  obtain ⟨a, c, rfl, hn, hc⟩ := h
  clear hc
  unfold maxLen at hn
  go_enter Try.func5, Try.ntmps5
  go_wp2_with fail
  refine (works_c w).mono ?_
  rintro e w0 ⟨rfl, E0⟩
  have HE0 := Lib.hid (E0.mono (G := New' w) (fun _ _ g => g.elim))
  clear E0
  go_wp2_with fail
  refine (new_c w0 room).mono ?_
  rintro e w1 ⟨bf, bm, rfl, F0, E1, hbf, hbm⟩
  have F1 : FV (Old w) w1 bf bm (min (max room 1) 4) [] := ⟨0, [], F0, rfl, fun b hb hX => by simp [fBlocks] at hb; have := HE0.out.size; omega, fun b hb => Nat.lt_of_lt_of_le hb (Nat.le_trans HE0.out.size E1.size)⟩
  have HE1 := Lib.hid (HE0.out.trans' E1 (fun _ _ g => g.elim))
  have HF1 := Lib.hid F1
  clear E1 F0 F1 hbf hbm HE0
  obtain ⟨R, hR⟩ : ∃ R, R = min (max room 1) 4 := ⟨_, rfl⟩
  rw [← hR] at HF1
  have HR := Lib.hid hR
  clear hR
  have HA1 := Lib.hid (HA.out.keeps HE1.out)
  go_wp2_with fail
  refine (few_c HA1.out).mono ?_
  rintro e w1' ⟨rfl, cc, rfl, hcc⟩
  cases cc with
  | false =>
    go_wp2
    go_ret
    exact LawPost.of HE1.out
  | true =>
    have hn60 := hcc rfl
    clear hcc
    go_wp2_with fail
    go_loopw [10] (fun i wr => ActRel w bf bm R n i wr) (fun i _ => n - (intOf i).toNat)
    case atStart => exact ⟨0, [], Nat.zero_le _, rfl, HF1.out, Nat.le_refl _, HE1.out⟩
    case round =>
      obtain ⟨k, A, hk, rfl, hF, hAl, hK⟩ := hrel
      have HF := Lib.hid hF
      have HK := Lib.hid hK
      have HAr := Lib.hid (HA.out.keeps hK)
      clear hF hK
      by_cases hlt : k < n
      · obtain ⟨a', c', e', _, hc⟩ := HAr.out
        obtain ⟨b, o, ha, _, h0, h1, h2, h3, hrng⟩ := hc k hlt
        injection e' with e1 e2 e3
        rw [e1, ha]
        clear hc e2 e3 ha e1
        generalize acts k = ac at h0 h1 h2 h3 hrng
        obtain ⟨ka, sa, ba, ra⟩ := ac
        dsimp only at h0 h1 h2 h3 hrng
        go_wp2_with fail
        refine (do_c HF.out ka sa ba ra hrng (by omega)).mono ?_
        rintro e w2 ⟨⟨v, rfl⟩, F2, K2⟩
        have HRel := Lib.hid (show ActRel w bf bm R n (.int .i64 ((k + 1 : Nat) : Int)) w2 from ⟨k + 1, _, by omega, rfl, F2, by have := doA_len R A ka sa ba ra; omega, HK.out.trans' K2 (fun x hx h => by show _ ≤ _; have h' : ¬ x < w.heap.size := h; omega)⟩)
        clear F2 K2 h0 h1 h2 h3 HF HK HAr HA1 HF1 HE1
        go_wp2
        go_roundw
        case rel => simpa using HRel.out
        case measure => simp [intOf]; omega
      · clear HAr HA1 HF1 HE1 HA
        go_wp2_with fail
        refine (waiting_v HF.out s).mono ?_
        rintro e w2 ⟨rfl, rfl⟩
        go_wp2_with fail
        refine (follows_v HF.out s).mono ?_
        rintro e w2 ⟨rfl, rfl⟩
        have HOK := Lib.hid HF.out.ok
        go_wp2_with fail
        refine (forget_v HF.out s).mono ?_
        rintro e w3 ⟨rfl, F3, K3⟩
        have hg := getA_rem_self A s
        have HFOL := Lib.hid (fun (h : followsV A s = true) => nfol_rem h)
        have HF3 := Lib.hid F3
        have HK3 := Lib.hid (HK.out.trans' K3 (fun x hx h => by show _ ≤ _; have h' : ¬ x < w.heap.size := h; omega))
        clear F3 K3 HF HK
        obtain ⟨A1, hA1⟩ : ∃ A1, A1 = remA A s := ⟨_, rfl⟩
        rw [← hA1] at HF3 hg HFOL
        have hA1l : A1.length ≤ 60 := by have := remA_len A s; rw [← hA1] at this; omega
        obtain ⟨W0, hW0⟩ : ∃ W0, W0 = waitsV A s := ⟨_, rfl⟩
        rw [← hW0]
        obtain ⟨fo, hfo⟩ : ∃ fo, fo = followsV A s := ⟨_, rfl⟩
        rw [← hfo] at HFOL ⊢
        have h4 := HOK.out.fols
        have HAG := Lib.hid (show fo = true → subOk A1 s = true from fun e => by
          have := HFOL.out e
          have h1 : followsV A1 s = false := by unfold followsV; rw [hg]; rfl
          unfold subOk; rw [h1]; simp; omega)
        clear hA1 hW0 hfo HFOL HOK h4
        have hhd : headA A1 s = none := by unfold headA; rw [hg]; rfl
        have hpp : popA A1 s = A1 := by unfold popA; rw [hg]
        have HG := Lib.hid hg
        have HHD := Lib.hid hhd
        have HPP := Lib.hid hpp
        clear hg hhd hpp
        go_wp2_with fail
        refine (pop_v HF3.out s).mono ?_
        rintro e w4 ⟨⟨⟨ses, err, blk, root, chg⟩, rfl, hone, _⟩, F4, K4⟩
        simp only [Ntc.cells, HHD.out, Option.isSome_none]
        rw [HPP.out] at F4
        have st3 := fun a W => run_store Try.prog W a (str root) .plain rfl
        have st4 := fun a W => run_store Try.prog W a chg .plain hone
        obtain ⟨w5, hw5⟩ : ∃ w5, w5 = w4.alloc (.cells #[.int .i64 ses, .int .i64 err, .int .i64 blk, str root, chg] 31) := ⟨_, rfl⟩
        have F5 := (F4.alloc (.cells #[.int .i64 ses, .int .i64 err, .int .i64 blk, str root, chg] 31)).widen (Y := Old w) (fun b hb => .inl hb)
        have K5 := (HK3.out.trans' K4 (fun x hx h => by show _ ≤ _; have h' : ¬ x < w.heap.size := h; omega)).alloc (.cells #[.int .i64 ses, .int .i64 err, .int .i64 blk, str root, chg] 31)
        rw [← hw5] at F5 K5
        have HF5 := Lib.hid F5
        have HK5 := Lib.hid K5
        clear F4 K4 F5 K5 HF3 HK3
        go_wp2_with fail
        rw [← hw5]
        clear hw5
        refine (sessions_v HF5.out).mono ?_
        rintro e w6 ⟨g, rfl, B6, K6, hg6⟩
        have F6 := HF5.out.turn (Y := Old w) K6 (fun _ h => h.elim) (fun b hb => ⟨.inl hb, Nat.lt_of_lt_of_le (HF5.out.lt hb) K6.size⟩)
        have HF6 := Lib.hid F6
        have HK6 := Lib.hid (HK5.out.trans' K6 (fun _ _ h => h.elim))
        have HB6 := Lib.hid B6
        have HL := Lib.hid (orderV_len A1)
        have HNI := Lib.hid (getA_none_iff HG.out)
        clear F6 K6 B6 HF5 HK5 hg6
        have hlen := HF6.out.ok.few
        go_wp2_with fail
        go_loop [17] (fun i => ∃ m : Nat, m ≤ A1.length ∧ i = .int .i64 m) (fun i => A1.length - (intOf i).toNat)
        case atStart => exact ⟨0, Nat.zero_le _, rfl⟩
        case round =>
          obtain ⟨m, hm, rfl⟩ := hrel
          by_cases hml : m < A1.length
          · have hc : w6.cell? ⟨g, m, none⟩ = some (.int .i64 ((orderV A1).getD m 0)) := by
              refine HB6.out.cellL ?_
              simp [ints, List.getElem?_eq_getElem (show m < (orderV A1).length by rw [HL.out]; exact hml)]
            have hne : (((orderV A1).getD m 0) == s) = false := by
              have h0 := HNI.out
              have hmm : (orderV A1).getD m 0 ∈ orderV A1 := by
                rw [List.getD_eq_getElem?_getD, List.getElem?_eq_getElem (show m < (orderV A1).length by rw [HL.out]; exact hml)]
                exact List.getElem_mem _
              simp only [beq_eq_false_iff_ne, ne_eq]
              exact fun e => h0 (e ▸ hmm)
            obtain ⟨z, hz⟩ : ∃ z, z = (orderV A1).getD m 0 := ⟨_, rfl⟩
            rw [← hz] at hc hne
            clear hz
            go_wp2
            go_round
            case rel => exact ⟨m + 1, by omega, by go_num⟩
            case measure => simp [intOf]; omega
          · go_wp2_with fail
            refine (subscribe_v HF6.out s hs (by omega)).mono ?_
            rintro e w7 ⟨rfl, F7, K7⟩
            have HF7 := Lib.hid F7
            have HW := Lib.hid (waits_sub HG.out (subOk A1 s))
            have HK7 := Lib.hid (HK6.out.trans' K7 (fun x hx h => by show _ ≤ _; have h' : ¬ x < w.heap.size := h; omega))
            clear F7 K7 HF6 HK6 HB6
            go_wp2_with fail
            refine (waiting_v HF7.out s).mono ?_
            rintro e w8 ⟨rfl, rfl⟩
            rw [HW.out]
            cases fo with
            | false =>
              go_wp2
              go_ret
              exact LawPost.of HK7.out
            | true =>
              have hag := HAG.out rfl
              rw [hag]
              go_wp2
              go_ret
              exact LawPost.of HK7.out
end Go.Proofs.Ytdempgabidbjfaa
