/- The feed's law: few, and the document's example. -/
import Derived.Test.YtdempgabidbjfaaFeedL
namespace Go.Proofs.Ytdempgabidbjfaa
open Go Go.RowKit
set_option linter.unusedSimpArgs false
set_option linter.unusedVariables false

def FewPost (w : World) (n : Nat) (e : Ending) (w' : World) : Prop := w' = w ∧ ∃ c, e = .returned (.bool c) ∧ (c = true → n ≤ 60)

set_option maxHeartbeats 1000000 in
theorem few_c {w : World} {v : Value} {n : Nat} {acts : Nat → Int × Int × Int × List UInt8} (h : ActsAt w v n acts) : Calls Try.prog 8 #[v] w (FewPost w n) := by
  obtain ⟨a, c, rfl, hn, hc⟩ := h
  have HC := Lib.hid hc
  clear hc
  unfold maxLen at hn
  go_enter Try.func8, Try.ntmps8
  go_wp2
  go_loop [3] (fun i => ∃ k : Nat, k ≤ n ∧ k ≤ 61 ∧ i = .int .i64 k) (fun i => n - (intOf i).toNat)
  case atStart => exact ⟨0, Nat.zero_le _, by omega, rfl⟩
  case round =>
    obtain ⟨k, hk, hk', rfl⟩ := hrel
    by_cases hlt : k < n
    · by_cases h60 : k ≤ 60
      · obtain ⟨b, o, rfl, _, _, _, _, h3, _⟩ := HC.out k hlt
        unfold str at h3
        generalize (ByteArray.mk (acts k).2.2.2.toArray) = S at h3
        go_wp2
        · go_ret
          exact ⟨rfl, _, rfl, fun h => by cases h⟩
        · go_round
          case rel => exact ⟨k + 1, by omega, by omega, by go_num⟩
          case measure => simp [intOf]; omega
      · go_wp2
        go_ret
        exact ⟨rfl, _, rfl, fun h => by simp at h; omega⟩
    · go_wp2
      go_ret
      exact ⟨rfl, _, rfl, fun h => by simp at h; omega⟩

theorem ws_sorted : sorted [3] = [3] := by simp [sorted]
theorem ws1 : subOk [] 3 = true := rfl
theorem ws2 : (if subOk [] 3 then subA [] 3 else []) = [(3, true, [])] := rfl
theorem ws3 : subOk [(3, true, [])] 3 = false := rfl
theorem ws4 : (if subOk [(3, true, [])] 3 then subA [(3, true, [])] 3 else [(3, true, [])]) = [(3, true, [])] := rfl
theorem ws5 : lagged 1 [(3, true, [])] [3] = [] := rfl
theorem ws6 : pushA 1 (0, 0, 1, [114]) [(3, true, [])] = [(3, true, [(3, 0, 1, [114])])] := rfl
theorem ws7 : lagged 1 [(3, true, [(3, 0, 1, [114])])] [3] = [3] := rfl
theorem ws8 : pushA 1 (0, 0, 2, []) [(3, true, [(3, 0, 1, [114])])] = [(3, false, [(3, 0, 1, [114]), (3, 11, 2, [])])] := rfl
theorem ws9 : lagged 1 [(3, false, [(3, 0, 1, [114]), (3, 11, 2, [])])] [3] = [] := rfl
theorem ws10 : pushA 1 (0, 0, 3, []) [(3, false, [(3, 0, 1, [114]), (3, 11, 2, [])])] = [(3, false, [(3, 0, 1, [114]), (3, 11, 2, [])])] := rfl
theorem ws11 : headA [(3, false, [(3, 0, 1, [114]), (3, 11, 2, [])])] 3 = some (3, 0, 1, [114]) := rfl
theorem ws12 : popA [(3, false, [(3, 0, 1, [114]), (3, 11, 2, [])])] 3 = [(3, false, [(3, 11, 2, [])])] := rfl
theorem ws13 : headA [(3, false, [(3, 11, 2, [])])] 3 = some (3, 11, 2, []) := rfl
theorem ws14 : popA [(3, false, [(3, 11, 2, [])])] 3 = [] := rfl
theorem ws15 : headA [] 3 = none := rfl
theorem ws16 : popA [] 3 = [] := rfl
theorem ws17 : unsubA [(3, true, [])] 3 = [] := rfl
theorem ws18 : unsubA [] 3 = [] := rfl
theorem ws19 : remA [] 3 = [] := rfl
theorem ws20 : followsV [(3, true, [])] 3 = true := rfl
theorem ws21 : followsV [] 3 = false := rfl
theorem ws22 : waitsV [] 3 = 0 := rfl

theorem nilChg (w : World) : ChgOk w (.slice none 0 0) := .inl rfl
theorem FV.widen {X : BSet} {w : World} {bf bm : Nat} {room : Int} {A : List AQ} {Y : BSet} (h : FV X w bf bm room A) (hY : ∀ b, Y b → X b) : FV Y w bf bm room A :=
  h.turn (Keeps.refl (fun _ => False) w) (fun _ g => g.elim) fun b hb => ⟨.inl (hY b hb), h.lt (hY b hb)⟩
theorem FV.alloc {X : BSet} {w : World} {bf bm : Nat} {room : Int} {A : List AQ} (h : FV X w bf bm room A) (o : Obj) : FV (fun b => X b ∨ b = w.heap.size) (w.alloc o) bf bm room A :=
  h.turn ((Keeps.refl (fun _ => False) w).alloc o) (fun _ g => g.elim) fun b hb => by
    rw [World.size_alloc]
    rcases hb with hb | hb
    · exact ⟨.inl hb, by have := h.lt hb; omega⟩
    · exact ⟨.inr (by omega), by omega⟩

def WorksPost (w : World) (e : Ending) (w' : World) : Prop := e = .returned (.bool true) ∧ Ext w w'

set_option maxHeartbeats 4000000 in
theorem works_c (w : World) : Calls Try.prog 6 #[] w (WorksPost w) := by
  go_enter Try.func6, Try.ntmps6
  go_wp2_with fail
  refine (new_c w 1).mono ?_
  rintro e w1 ⟨bf, bm, rfl, F0, E1, hbf, hbm⟩
  have F1 : FV (fun b => b < w.heap.size) w1 bf bm 1 [] := ⟨0, [], F0, rfl, fun b hb => by simp [fBlocks] at hb; omega, fun b hb => Nat.lt_of_lt_of_le hb E1.size⟩
  have HE1 := Lib.hid E1
  have HF1 := Lib.hid F1
  clear E1 F0 F1 hbf hbm
  go_wp2_with fail
  refine (subscribe_v HF1.out 3 (by decide) (by decide)).mono ?_
  rintro e w2 ⟨rfl, F2, K2⟩
  rw [ws2] at F2
  rw [ws1]
  have HF2 := Lib.hid F2
  have HE2 := Lib.hid ((HE1.out.mono (G := fun b => w.heap.size ≤ b) (fun _ _ g => g.elim)).trans' K2 (fun b hb h => by omega))
  clear F2 K2 HF1 HE1
  go_wp2_with fail
  refine (subscribe_v HF2.out 3 (by decide) (by decide)).mono ?_
  rintro e w3 ⟨rfl, F3, K3⟩
  rw [ws4] at F3
  rw [ws3]
  have HF3 := Lib.hid F3
  have HE3 := Lib.hid (HE2.out.trans' K3 (fun b hb h => by omega))
  clear F3 K3 HF2 HE2
  go_wp2_with fail
  have HP4 := push_v HF3.out ⟨0, 0, 1, [114], .slice none 0 0⟩ (nilChg w3) (fun b hb => by cases hb)
  rw [show orderV [(3, true, [])] = [3] from ws_sorted, ws5, show (Ntc.abs ⟨0, 0, 1, [114], .slice none 0 0⟩) = (0, 0, 1, [114]) from rfl, ws6] at HP4
  refine HP4.mono ?_
  rintro e w4 ⟨a4, c4, rfl, F4, K4, R4, O4⟩
  have HF4 := Lib.hid (F4.widen (Y := fun b => b < w.heap.size) (fun b hb => .inl hb))
  have HE4 := Lib.hid (HE3.out.trans' K4 (fun b hb h => by omega))
  clear F4 K4 HF3 HE3
  clear HP4 R4 O4
  go_wp2_with fail
  have HP5 := push_v HF4.out ⟨0, 0, 2, [], .slice none 0 0⟩ (nilChg w4) (fun b hb => by cases hb)
  rw [show orderV [(3, true, [(3, 0, 1, [114])])] = [3] from ws_sorted, ws7, show (Ntc.abs ⟨0, 0, 2, [], .slice none 0 0⟩) = (0, 0, 2, []) from rfl, ws8] at HP5
  refine HP5.mono ?_
  rintro e w5 ⟨a5, c5, rfl, F5, K5, R5, O5⟩
  obtain ⟨yg, ycur, rfl, yb5, yc0⟩ : ∃ g cur, a5 = some ⟨g, 0, none⟩ ∧ Blk w5 g (.cells cur 3) ∧ cur.toList[0]? = some (.int .i64 3) := by
    obtain ⟨_, h2 | ⟨g, cap, cur, e, _, h4, _, _, _, h8⟩⟩ := R5
    · simp [ints] at h2
    · injection e with e1 e2 e3
      refine ⟨g, cur, e1, h4, ?_⟩
      have : (cur.toList.take 1)[0]? = some (.int .i64 3) := by rw [show cur.toList.take 1 = ints [3] from h8]; rfl
      simpa [List.getElem?_take] using this
  have HF5 := Lib.hid (F5.widen (Y := fun b => b < w.heap.size ∨ b = yg) (fun b hb => hb.imp id (fun e => by rw [e]; rfl)))
  have hyg : w.heap.size ≤ yg := by have := HE4.out.size; have := O5 yg rfl; omega
  have Y5 := Lib.hid yb5
  have HE5 := Lib.hid (HE4.out.trans' K5 (fun b hb h => by omega))
  clear HP5 R5 O5 F5 K5 HF4 HE4 yb5
  go_wp2_with fail
  have HP6 := push_v HF5.out ⟨0, 0, 3, [], .slice none 0 0⟩ (nilChg w5) (fun b hb => by cases hb)
  rw [show orderV [(3, false, [(3, 0, 1, [114]), (3, 11, 2, [])])] = [3] from ws_sorted, ws9, show (Ntc.abs ⟨0, 0, 3, [], .slice none 0 0⟩) = (0, 0, 3, []) from rfl, ws10] at HP6
  refine HP6.mono ?_
  rintro e w6 ⟨a6, c6, rfl, F6, K6, _, _⟩
  have HF6 := Lib.hid (F6.widen (Y := (fun b => b < w.heap.size ∨ b = yg)) (fun b hb => .inl hb))
  have Y6 := Lib.hid (Y5.out.keeps K6 (fun e => e (.inr rfl)))
  have HE6 := Lib.hid (HE5.out.trans' K6 (fun b hb h => by omega))
  clear HP6 F6 K6 HF5 HE5 Y5
  go_wp2_with fail
  refine (pop_v HF6.out 3).mono ?_
  rintro e w7 ⟨⟨⟨s7, e7, b7, r7, g7⟩, rfl, hone7, habs7⟩, F7, K7⟩
  rw [ws12] at F7
  rw [ws11] at habs7
  simp only [Ntc.cells, ws11, Option.isSome_some, Option.isSome_none]
  have hv7 := habs7 _ rfl
  simp only [Ntc.abs, Prod.mk.injEq] at hv7
  obtain ⟨rfl, rfl, rfl, rfl⟩ := hv7
  have st3 := fun a W => run_store Try.prog W a (str [114]) .plain rfl
  have st4 := fun a W => run_store Try.prog W a g7 .plain hone7
  have Y7 := Lib.hid ((Y6.out.keeps K7 (fun e => e (by simp))).alloc (.cells #[.int .i64 3, .int .i64 0, .int .i64 1, str [114], g7] 31))
  have M7_7 := Lib.hid (Blk.new w7 (.cells #[.int .i64 3, .int .i64 0, .int .i64 1, str [114], g7] 31))
  have HF7 := Lib.hid (F7.alloc (.cells #[.int .i64 3, .int .i64 0, .int .i64 1, str [114], g7] 31))
  have HE7 := Lib.hid ((HE6.out.trans' K7 (fun b hb h => by simp at h; omega)).alloc (.cells #[.int .i64 3, .int .i64 0, .int .i64 1, str [114], g7] 31))
  clear F7 K7 HF6 HE6 Y6 habs7 
  go_wp2_with fail
  obtain ⟨v7, hv7⟩ : ∃ v, v = w7.alloc (.cells #[.int .i64 3, .int .i64 0, .int .i64 1, str [114], g7] 31) := ⟨_, rfl⟩
  rw [← hv7] at Y7 HF7 HE7 M7_7  ⊢
  clear hv7
  go_wp2_with fail
  refine (pop_v HF7.out 3).mono ?_
  rintro e w8 ⟨⟨⟨s8, e8, b8, r8, g8⟩, rfl, hone8, habs8⟩, F8, K8⟩
  rw [ws14] at F8
  rw [ws13] at habs8
  simp only [Ntc.cells, ws13, Option.isSome_some, Option.isSome_none]
  have hv8 := habs8 _ rfl
  simp only [Ntc.abs, Prod.mk.injEq] at hv8
  obtain ⟨rfl, rfl, rfl, rfl⟩ := hv8
  have st3 := fun a W => run_store Try.prog W a (str []) .plain rfl
  have st4 := fun a W => run_store Try.prog W a g8 .plain hone8
  have Y8 := Lib.hid ((Y7.out.keeps K8 (fun e => e (by simp))).alloc (.cells #[.int .i64 3, .int .i64 11, .int .i64 2, str [], g8] 31))
  have M7_8 := Lib.hid ((M7_7.out.keeps K8 (fun e => e (by simp))).alloc (.cells #[.int .i64 3, .int .i64 11, .int .i64 2, str [], g8] 31))
  have M8_8 := Lib.hid (Blk.new w8 (.cells #[.int .i64 3, .int .i64 11, .int .i64 2, str [], g8] 31))
  have HF8 := Lib.hid (F8.alloc (.cells #[.int .i64 3, .int .i64 11, .int .i64 2, str [], g8] 31))
  have HE8 := Lib.hid ((HE7.out.trans' K8 (fun b hb h => by simp at h; omega)).alloc (.cells #[.int .i64 3, .int .i64 11, .int .i64 2, str [], g8] 31))
  clear F8 K8 HF7 HE7 Y7 habs8 M7_7
  go_wp2_with fail
  obtain ⟨v8, hv8⟩ : ∃ v, v = w8.alloc (.cells #[.int .i64 3, .int .i64 11, .int .i64 2, str [], g8] 31) := ⟨_, rfl⟩
  rw [← hv8] at Y8 HF8 HE8 M8_8 M7_8 ⊢
  clear hv8
  go_wp2_with fail
  refine (pop_v HF8.out 3).mono ?_
  rintro e w9 ⟨⟨⟨s9, e9, b9, r9, g9⟩, rfl, hone9, habs9⟩, F9, K9⟩
  rw [ws16] at F9
  rw [ws15] at habs9
  simp only [Ntc.cells, ws15, Option.isSome_some, Option.isSome_none]
  have st3 := fun a W => run_store Try.prog W a (str r9) .plain rfl
  have st4 := fun a W => run_store Try.prog W a g9 .plain hone9
  have Y9 := Lib.hid ((Y8.out.keeps K9 (fun e => e (by simp))).alloc (.cells #[.int .i64 s9, .int .i64 e9, .int .i64 b9, str r9, g9] 31))
  have M7_9 := Lib.hid ((M7_8.out.keeps K9 (fun e => e (by simp))).alloc (.cells #[.int .i64 s9, .int .i64 e9, .int .i64 b9, str r9, g9] 31))
  have M8_9 := Lib.hid ((M8_8.out.keeps K9 (fun e => e (by simp))).alloc (.cells #[.int .i64 s9, .int .i64 e9, .int .i64 b9, str r9, g9] 31))
  have M9_9 := Lib.hid (Blk.new w9 (.cells #[.int .i64 s9, .int .i64 e9, .int .i64 b9, str r9, g9] 31))
  have HF9 := Lib.hid (F9.alloc (.cells #[.int .i64 s9, .int .i64 e9, .int .i64 b9, str r9, g9] 31))
  have HE9 := Lib.hid ((HE8.out.trans' K9 (fun b hb h => by simp at h; omega)).alloc (.cells #[.int .i64 s9, .int .i64 e9, .int .i64 b9, str r9, g9] 31))
  clear F9 K9 HF8 HE8 Y8 habs9 M7_8 M8_8
  go_wp2_with fail
  obtain ⟨v9, hv9⟩ : ∃ v, v = w9.alloc (.cells #[.int .i64 s9, .int .i64 e9, .int .i64 b9, str r9, g9] 31) := ⟨_, rfl⟩
  rw [← hv9] at Y9 HF9 HE9 M9_9 M7_9 M8_9 ⊢
  clear hv9
  refine (subscribe_v HF9.out 3 (by decide) (by decide)).mono ?_
  rintro e wA ⟨rfl, FA, KA⟩
  rw [ws2] at FA
  rw [ws1]
  have YA := Y9.out.keeps KA (fun e => e (by simp))
  have MA := M7_9.out.keeps KA (fun e => e (by simp))
  have NA := M8_9.out.keeps KA (fun e => e (by simp))
  have y0 : wA.cell? ⟨yg, 0, none⟩ = some (.int .i64 3) := by
    refine YA.cell ?_
    simpa using yc0
  have m0 := MA.cell (i := 0) (v := .int .i64 3) (by rfl)
  have m2 := MA.cell (i := 2) (v := .int .i64 1) (by rfl)
  have m3 := MA.cell (i := 3) (v := .string ⟨#[114]⟩) (by rfl)
  have n1 := NA.cell (i := 1) (v := .int .i64 11) (by rfl)
  have n2 := NA.cell (i := 2) (v := .int .i64 2) (by rfl)
  have HFA := Lib.hid FA
  have HEA := Lib.hid (HE9.out.trans' KA (fun b hb h => by simp at h; omega))
  clear FA KA HF9 HE9 YA MA NA Y9 M7_9 M8_9 M9_9
  go_wp2_with fail
  refine (follows_v HFA.out 3).mono ?_
  rintro e wB ⟨rfl, rfl⟩
  rw [ws20]
  go_wp2_with fail
  refine (unsub_v HFA.out 3).mono ?_
  rintro e wB ⟨rfl, FB, KB⟩
  rw [ws17] at FB
  rw [ws20]
  have HFB := Lib.hid FB
  have HEB := Lib.hid (HEA.out.trans' KB (fun b hb h => by simp at h; omega))
  clear FB KB HFA HEA y0 m0 m2 m3 n1 n2
  go_wp2_with fail
  refine (unsub_v HFB.out 3).mono ?_
  rintro e wC ⟨rfl, FC, KC⟩
  rw [ws18] at FC
  rw [ws21]
  have HFC := Lib.hid FC
  have HEC := Lib.hid (HEB.out.trans' KC (fun b hb h => by simp at h; omega))
  clear FC KC HFB HEB
  go_wp2_with fail
  refine (waiting_v HFC.out 3).mono ?_
  rintro e wD ⟨rfl, rfl⟩
  rw [ws22]
  go_wp2_with fail
  refine (forget_v HFC.out 3).mono ?_
  rintro e wD ⟨rfl, FD, KD⟩
  rw [ws19] at FD
  rw [ws22]
  have HFD := Lib.hid FD
  have HED := Lib.hid (HEC.out.trans' KD (fun b hb h => by simp at h; omega))
  clear FD KD HFC HEC
  go_wp2_with fail
  refine (sessions_v HFD.out).mono ?_
  rintro e wE ⟨gE, rfl, _, KE, _⟩
  have HEE := Lib.hid (((HED.out.trans' KE (fun b hb h => h.elim))).mono (G := fun _ => False) (fun x hx e => by omega))
  clear KE HFD HED
  go_wp2
  go_ret
  exact ⟨rfl, HEE.out⟩
end Go.Proofs.Ytdempgabidbjfaa
