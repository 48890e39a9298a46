/- The feed's law FeedRoom: its walk. -/
import Derived.Test.YtdempgabidbjfaaFeedN
namespace Go.Proofs.Ytdempgabidbjfaa
open Go Go.RowKit
set_option linter.unusedSimpArgs false
set_option linter.unusedVariables false

def cntV (A : List AQ) (m : Nat) : Nat := (((orderV A).take m).filter (fun i => followsV A i)).length
theorem orderV_take {A : List AQ} {m : Nat} (h : m < A.length) : (orderV A).take (m + 1) = (orderV A).take m ++ [(orderV A).getD m 0] := by
  have hl : m < (orderV A).length := by rw [orderV_len]; exact h
  rw [List.take_succ_eq_append_getElem hl, List.getD_eq_getElem?_getD, List.getElem?_eq_getElem hl]; rfl
theorem cntV_succ {A : List AQ} {m : Nat} (h : m < A.length) : cntV A (m + 1) = cntV A m + if followsV A ((orderV A).getD m 0) then 1 else 0 := by
  unfold cntV
  rw [orderV_take h, List.filter_append, List.length_append]
  congr 1
  rw [List.filter_cons]
  cases followsV A ((orderV A).getD m 0) <;> rfl
theorem FV.cnt_le {X : BSet} {w : World} {bf bm : Nat} {room : Int} {A : List AQ} (h : FV X w bf bm room A) (m : Nat) : cntV A m ≤ 4 := by
  obtain ⟨ck, es, h1, rfl, _, _⟩ := h
  have e : cntV (view es) m = cnt es m := by
    unfold cntV cnt; rw [orderV_view]; congr 2; funext i; exact followsV_view es i
  rw [e]
  have h2 := cnt_all h1.ids
  have h3 := h1.fols
  have h4 : cnt es m ≤ cnt es es.length := by
    unfold cnt
    refine List.Sublist.length_le (List.Sublist.filter _ ?_)
    rw [List.take_of_length_le (l := order es) (i := es.length) (by rw [order_len]; exact Nat.le_refl _)]
    exact List.take_sublist _ _
  omega
theorem FV.sorted {X : BSet} {w : World} {bf bm : Nat} {room : Int} {A : List AQ} (h : FV X w bf bm room A) {m : Nat} (hm : m + 1 < A.length) : (orderV A).getD m 0 < (orderV A).getD (m + 1) 0 := by
  obtain ⟨ck, es, h1, rfl, _, _⟩ := h
  rw [orderV_view]
  rw [view_len] at hm
  have hn := order_nodup h1.ids
  have tr : ∀ a b c : Int, decide (a ≤ b) = true → decide (b ≤ c) = true → decide (a ≤ c) = true := by intro a b c h1 h2; simp at *; omega
  have to : ∀ a b : Int, (decide (a ≤ b) || decide (b ≤ a)) = true := by intro a b; simp; omega
  have hp : (order es).Pairwise (fun x y => decide (x ≤ y) = true) := List.pairwise_mergeSort tr to _
  have l1 : m < (order es).length := by rw [order_len]; omega
  have l2 : m + 1 < (order es).length := by rw [order_len]; omega
  have h2 := List.pairwise_iff_getElem.1 hp m (m + 1) l1 l2 (by omega)
  have h3 := List.pairwise_iff_getElem.1 hn m (m + 1) l1 l2 (by omega)
  rw [List.getD_eq_getElem?_getD, List.getD_eq_getElem?_getD, List.getElem?_eq_getElem l1, List.getElem?_eq_getElem l2]
  simp only [Option.getD_some]
  simp at h2
  have h4 : (order es)[m] ≠ (order es)[m + 1] := h3
  omega
theorem VOk.waits {room : Int} {A : List AQ} (h : VOk room A) (i : Int) : (waitsV A i : Int) ≤ room + 1 := by
  unfold waitsV getA
  cases hf : A.find? (fun x => decide (i = x.1)) with
  | none => simp; have := h.lo; omega
  | some x => simpa using h.full x (List.mem_of_find?_eq_some hf)
theorem Keeps.drewN {F : BSet} {a b : World} (h : Keeps F a b) (n : Nat) : Keeps F a (b.drewN n) := ⟨h.os, h.tape, h.output, h.size, h.block⟩

/-- The inner loop. -/
def AllRel (w : World) (bf bm : Nat) (R : Int) (A : List AQ) (g : Nat) (f i : Value) (wr : World) : Prop :=
  ∃ m : Nat, m ≤ A.length ∧ i = .int .i64 m ∧ f = .int .i64 (cntV A m) ∧ FV (fun b => Old w b ∨ b = g) wr bf bm R A ∧ Keeps (New' w) w wr ∧ Blk wr g (.cells (ints (orderV A)).toArray 3) ∧ w.heap.size ≤ g

set_option maxHeartbeats 4000000 in
theorem room_c {w : World} {v : Value} {n : Nat} {acts : Nat → Int × Int × Int × List UInt8} (h : ActsAt w v n acts) (room : Int) :
    Calls Try.prog 3 #[.int .i64 room, v] w (LawPost w) := by
  have HA := Lib.hid h
  obtain ⟨a, c, rfl, hn, hc⟩ := h
  clear hc
  unfold maxLen at hn
  go_enter Try.func3, Try.ntmps3
  go_wp2_with fail
  refine (works_c w).mono ?_
  rintro e w0 ⟨rfl, E0⟩
  have HE0 := Lib.hid (E0.mono (G := New' w) (fun _ _ g => g.elim))
  clear E0
  go_wp2_with fail
  refine (new_c w0 room).mono ?_
  rintro e w1 ⟨bf, bm, rfl, F0, E1, hbf, hbm⟩
  have F1 : FV (Old w) w1 bf bm (min (max room 1) 4) [] := ⟨0, [], F0, rfl, fun b hb hX => by simp [fBlocks] at hb; have := HE0.out.size; omega, fun b hb => Nat.lt_of_lt_of_le hb (Nat.le_trans HE0.out.size E1.size)⟩
  have HE1 := Lib.hid (HE0.out.trans' E1 (fun _ _ g => g.elim))
  have HF1 := Lib.hid F1
  clear E1 F0 F1 hbf hbm HE0
  obtain ⟨R, hR⟩ : ∃ R, R = min (max room 1) 4 := ⟨_, rfl⟩
  rw [← hR] at HF1
  have HR := Lib.hid hR
  clear hR
  have HA1 := Lib.hid (HA.out.keeps HE1.out)
  go_wp2_with fail
  refine (few_c HA1.out).mono ?_
  rintro e w1' ⟨rfl, cc, rfl, hcc⟩
  cases cc with
  | false =>
    go_wp2
    go_ret
    exact LawPost.of HE1.out
  | true =>
    have hn60 := hcc rfl
    clear hcc
    go_wp2_with fail
    go_loopw [8] (fun i wr => ActRel w bf bm R n i wr) (fun i _ => n - (intOf i).toNat)
    case atStart => exact ⟨0, [], Nat.zero_le _, rfl, HF1.out, Nat.le_refl _, HE1.out⟩
    case round =>
      obtain ⟨k, A, hk, rfl, hF, hAl, hK⟩ := hrel
      have HF := Lib.hid hF
      have HK := Lib.hid hK
      have HAr := Lib.hid (HA.out.keeps hK)
      clear hF hK
      by_cases hlt : k < n
      · obtain ⟨a', c', e', _, hc⟩ := HAr.out
        obtain ⟨b, o, ha, _, h0, h1, h2, h3, hrng⟩ := hc k hlt
        injection e' with e1 e2 e3
        rw [e1, ha]
        clear hc e2 e3 ha e1
        generalize acts k = ac at h0 h1 h2 h3 hrng
        obtain ⟨ka, sa, ba, ra⟩ := ac
        dsimp only at h0 h1 h2 h3 hrng
        go_wp2_with fail
        refine (do_c HF.out ka sa ba ra hrng (by omega)).mono ?_
        rintro e w2 ⟨⟨v, rfl⟩, F2, K2⟩
        obtain ⟨A2, hA2⟩ : ∃ A2, A2 = doA R A ka sa ba ra := ⟨_, rfl⟩
        have hl2 : A2.length ≤ k + 1 := by have := doA_len R A ka sa ba ra; rw [← hA2] at this; omega
        rw [← hA2] at F2
        clear hA2
        have HF2 := Lib.hid F2
        have HK2 := Lib.hid (HK.out.trans' K2 (fun x hx h => by show _ ≤ _; have h' : ¬ x < w.heap.size := h; omega))
        clear F2 K2 h0 h1 h2 h3 HF HK HAr HA1 HF1 HE1
        go_wp2_with fail
        refine (sessions_v HF2.out).mono ?_
        rintro e w3 ⟨g, rfl, B3, K3, hg3⟩
        have HF3 := Lib.hid (HF2.out.turn (Y := fun b => Old w b ∨ b = g) K3 (fun _ h => h.elim) (fun b hb => by
          rcases hb with hb | hb
          · exact ⟨.inl hb, Nat.lt_of_lt_of_le (HF2.out.lt hb) K3.size⟩
          · exact ⟨.inr (by omega), by rw [hb]; exact B3.lt⟩))
        have HK3 := Lib.hid (HK2.out.trans' K3 (fun _ _ h => h.elim))
        have HB3 := Lib.hid B3
        have HG := Lib.hid (show w.heap.size ≤ g from by have := HK2.out.size; omega)
        clear K3 B3 HF2 HK2 hg3
        go_wp2_with fail
        go_loopw [10, 11] (fun f i wr => AllRel w bf bm R A2 g f i wr) (fun _ i _ => A2.length - (intOf i).toNat)
        case atStart => exact ⟨0, Nat.zero_le _, rfl, rfl, HF3.out, HK3.out, HB3.out, HG.out⟩
        case round =>
          obtain ⟨m, hm, rfl, rfl, hF4, hK4, hB4, _⟩ := hrel
          have HF4 := Lib.hid hF4
          have HK4 := Lib.hid hK4
          have HB4 := Lib.hid hB4
          clear hF4 hK4 hB4 HF3 HK3 HB3
          by_cases hml : m < A2.length
          · have hol := Lib.hid (orderV_len A2)
            obtain ⟨z, hz⟩ : ∃ z, z = (orderV A2).getD m 0 := ⟨_, rfl⟩
            have hc : wr.cell? ⟨g, m, none⟩ = some (.int .i64 z) := by
              refine HB4.out.cellL ?_
              rw [hz]
              simp [ints, List.getElem?_eq_getElem (show m < (orderV A2).length by rw [hol.out]; exact hml)]
            have hwt : decide (min (max room 1) 4 + 1 < (waitsV A2 z : Int)) = false := by
              have h1 := HF4.out.ok.waits z
              have h2 := HR.out
              simp only [decide_eq_false_iff_not]; omega
            have hwt2 : decide (IntKind.i64.wrap (min (max room 1) 4 + 1) < (waitsV A2 z : Int)) = false := by
              have h1 : min (max room 1) 4 + 1 ≤ 5 := by omega
              have h2 : 2 ≤ min (max room 1) 4 + 1 := by omega
              have h3 : IntKind.i64.wrap (min (max room 1) 4 + 1) = min (max room 1) 4 + 1 := by
                generalize min (max room 1) 4 + 1 = q at h1 h2
                simp [IntKind.wrap, IntKind.bits, IntKind.signed]; omega
              rw [h3]; exact hwt
            have HSUC := Lib.hid (cntV_succ hml)
            rw [← hz] at HSUC
            have HGG := Lib.hid (show w.heap.size ≤ g by assumption)
            have hcl := HF4.out.cnt_le m
            have hfw := HF4.out.ok.few
            have HFD := Lib.hid (show ∀ nn, FV (fun b => Old w b ∨ b = g) (wr.drewN nn) bf bm R A2 from fun nn => HF4.out.turn ((Keeps.refl (fun _ => False) wr).drewN nn) (fun _ h => h.elim) (fun b hb => ⟨.inl hb, HF4.out.lt hb⟩))
            by_cases hm0 : m = 0
            · have hmd : decide ((0 : Int) < (m : Int)) = false := by simp; omega
              have hmd2 : decide (0 < m) = false := by simp; omega
              have HM0 := Lib.hid hm0
              clear hz hm0
              go_wp2_with fail
              go_quiet (exact Calls.quiet_of_same (waiting_v (HFD.out _) _))
              go_wp2_with fail
              refine (follows_v (HFD.out nq) z).mono ?_
              rintro e w5 ⟨rfl, rfl⟩
              cases hfz : followsV A2 z with
              | true =>
                have HRel := Lib.hid (show AllRel w bf bm R A2 g (.int .i64 ((cntV A2 m + 1 : Nat) : Int)) (.int .i64 ((m + 1 : Nat) : Int)) (wr.drewN nq) from ⟨m + 1, by omega, rfl, by rw [HSUC.out, hfz]; rfl, HFD.out nq, HK4.out.drewN nq, HB4.out.keeps ((Keeps.refl (fun _ => False) wr).drewN nq) (fun h => h), HGG.out⟩)
                clear hfz
                go_wp2
                go_roundw
                case rel => simpa using HRel.out
                case measure => simp [intOf]; omega
              | false =>
                have HRel := Lib.hid (show AllRel w bf bm R A2 g (.int .i64 ((cntV A2 m : Nat) : Int)) (.int .i64 ((m + 1 : Nat) : Int)) (wr.drewN nq) from ⟨m + 1, by omega, rfl, by rw [HSUC.out, hfz]; rfl, HFD.out nq, HK4.out.drewN nq, HB4.out.keeps ((Keeps.refl (fun _ => False) wr).drewN nq) (fun h => h), HGG.out⟩)
                clear hfz
                go_wp2
                go_roundw
                case rel => simpa using HRel.out
                case measure => simp [intOf]; omega
            · have hmd : decide ((0 : Int) < (m : Int)) = true := by simp; omega
              have hmd2 : decide (0 < m) = true := by simp; omega
              have h1m : 1 ≤ m := by omega
              have h1i : (0 : Int) ≤ (m : Int) - 1 := by omega
              have h1j : (m : Int) - 1 < (A2.length : Int) := by omega
              have hc' : wr.cell? ⟨g, m - 1, none⟩ = some (.int .i64 ((orderV A2).getD (m - 1) 0)) := by
                refine HB4.out.cellL ?_
                simp [ints, List.getElem?_eq_getElem (show m - 1 < (orderV A2).length by rw [hol.out]; omega)]
              have hst : decide (z ≤ (orderV A2).getD (m - 1) 0) = false := by
                have := HF4.out.sorted (m := m - 1) (by omega)
                rw [show m - 1 + 1 = m by omega, ← hz] at this
                simp only [decide_eq_false_iff_not]; omega
              generalize (orderV A2).getD (m - 1) 0 = zp at hc' hst
              have HM1 := Lib.hid hm0
              clear hz hm0
              go_wp2_with fail
              go_quiet (exact Calls.quiet_of_same (waiting_v (HFD.out _) _))
              go_wp2_with fail
              refine (follows_v (HFD.out nq) z).mono ?_
              rintro e w5 ⟨rfl, rfl⟩
              cases hfz : followsV A2 z with
              | true =>
                have HRel := Lib.hid (show AllRel w bf bm R A2 g (.int .i64 ((cntV A2 m + 1 : Nat) : Int)) (.int .i64 ((m + 1 : Nat) : Int)) (wr.drewN nq) from ⟨m + 1, by omega, rfl, by rw [HSUC.out, hfz]; rfl, HFD.out nq, HK4.out.drewN nq, HB4.out.keeps ((Keeps.refl (fun _ => False) wr).drewN nq) (fun h => h), HGG.out⟩)
                clear hfz
                go_wp2
                go_roundw
                case rel => simpa using HRel.out
                case measure => simp [intOf]; omega
              | false =>
                have HRel := Lib.hid (show AllRel w bf bm R A2 g (.int .i64 ((cntV A2 m : Nat) : Int)) (.int .i64 ((m + 1 : Nat) : Int)) (wr.drewN nq) from ⟨m + 1, by omega, rfl, by rw [HSUC.out, hfz]; rfl, HFD.out nq, HK4.out.drewN nq, HB4.out.keeps ((Keeps.refl (fun _ => False) wr).drewN nq) (fun h => h), HGG.out⟩)
                clear hfz
                go_wp2
                go_roundw
                case rel => simpa using HRel.out
                case measure => simp [intOf]; omega
          · have hc4 := HF4.out.cnt_le m
            have HRel := Lib.hid (show ActRel w bf bm R n (.int .i64 ((k + 1 : Nat) : Int)) wr from ⟨k + 1, A2, by omega, rfl, HF4.out.widen (fun b hb => .inl hb), hl2, HK4.out⟩)
            go_wp2
            go_roundw
            case rel => simpa using HRel.out
            case measure => simp [intOf]; omega
      · clear HAr HA1 HF1 HE1 HA
        go_wp2
        go_ret
        exact LawPost.of HK.out
end Go.Proofs.Ytdempgabidbjfaa
