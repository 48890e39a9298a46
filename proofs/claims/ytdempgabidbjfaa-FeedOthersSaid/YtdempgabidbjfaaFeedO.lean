/- The feed's law FeedOthers: its walk. -/
import Derived.Test.YtdempgabidbjfaaFeedN
namespace Go.Proofs.Ytdempgabidbjfaa
open Go Go.RowKit
set_option linter.unusedSimpArgs false
set_option linter.unusedVariables false

theorem follows_do {room : Int} {A : List AQ} {k s b : Int} {r : List UInt8} {o : Int} (hne : o ≠ s) (hk : k ≠ 2) : followsV (doA room A k s b r) o = followsV A o := by unfold followsV; rw [getA_do hne hk]
theorem waits_do {room : Int} {A : List AQ} {k s b : Int} {r : List UInt8} {o : Int} (hne : o ≠ s) (hk : k ≠ 2) : waitsV (doA room A k s b r) o = waitsV A o := by unfold waitsV; rw [getA_do hne hk]

theorem ActsAt.alloc {w : World} {v : Value} {n : Nat} {acts : Nat → Int × Int × Int × List UInt8} (h : ActsAt w v n acts) (o : Obj) : ActsAt (w.alloc o) v n acts :=
  h.keeps ((Keeps.refl (New' w) w).alloc o)
theorem ActsAt.one {w : World} {g : Nat} {ka sa ba : Int} {ra : List UInt8} {T : TypeId} (h : Blk w g (.cells #[.int .i64 ka, .int .i64 sa, .int .i64 ba, str ra] T)) (hr : -9223372036854775808 ≤ sa ∧ sa ≤ 9223372036854775807) : ActsAt w (.slice (some ⟨g, 0, none⟩) 1 1) 1 (fun _ => (ka, sa, ba, ra)) := by
  refine ⟨_, 1, rfl, by unfold maxLen; omega, fun i hi => ?_⟩
  have : i = 0 := by omega
  subst this
  exact ⟨g, 0, rfl, h.lt, h.cell (i := 0) (by rfl), h.cell (i := 1) (by rfl), h.cell (i := 2) (by rfl), h.cell (i := 3) (by rfl), hr⟩

theorem LawPost.based {w wB w' : World} {e : Ending} (k0 : Keeps (New' w) w wB) (h : e = .returned (.bool true)) (k : Keeps (New' wB) wB w') : LawPost w e w' := by
  subst h
  exact LawPost.of (k0.trans' k (fun x hx h => by have := k0.size; have h' : wB.heap.size ≤ x := h; show _ ≤ _; omega))

set_option maxHeartbeats 4000000 in
theorem others_c {w : World} {v : Value} {n : Nat} {acts : Nat → Int × Int × Int × List UInt8} (h : ActsAt w v n acts) (room s ka sa ba : Int) (ra : List UInt8) (hs : -9223372036854775808 ≤ s ∧ s ≤ 9223372036854775807) (hsa : -9223372036854775808 ≤ sa ∧ sa ≤ 9223372036854775807) :
    Calls Try.prog 4 #[.int .i64 room, v, .agg #[.int .i64 ka, .int .i64 sa, .int .i64 ba, str ra], .int .i64 s] w (LawPost w) := by
  obtain ⟨S, hS⟩ : ∃ S : ByteArray, S = ⟨ra.toArray⟩ := ⟨_, rfl⟩
  have hstr : str ra = .string S := by rw [hS]; rfl
  have HS := Lib.hid hstr
  rw [hstr]
  clear hS hstr
  obtain ⟨wB, hwB⟩ : ∃ wB, wB = w.alloc (.cells #[.int .i64 ka, .int .i64 sa, .int .i64 ba, .string S] 36) := ⟨_, rfl⟩
  have KB := Lib.hid (show Keeps (New' w) w wB from by rw [hwB]; exact (Keeps.refl _ w).alloc _)
  have BB := Lib.hid (show Blk wB w.heap.size (.cells #[.int .i64 ka, .int .i64 sa, .int .i64 ba, .string S] 36) from by rw [hwB]; exact Blk.new w _)
  have HA := Lib.hid (show ActsAt wB v n acts from by rw [hwB]; exact h.alloc _)
  have hBlt := BB.out.lt
  obtain ⟨a, c, rfl, hn, hc⟩ := h
  clear hc
  unfold maxLen at hn
  go_enter Try.func4, Try.ntmps4
  go_wp2_with fail
  rw [← hwB]
  clear hwB
  refine (works_c wB).mono ?_
  rintro e w0 ⟨rfl, E0⟩
  have HE0 := Lib.hid (E0.mono (G := New' wB) (fun _ _ g => g.elim))
  clear E0
  go_wp2_with fail
  refine (new_c w0 room).mono ?_
  rintro e w1 ⟨bf, bm, rfl, F0, E1, hbf, hbm⟩
  have F1 : FV (Old wB) w1 bf bm (min (max room 1) 4) [] := ⟨0, [], F0, rfl, fun b hb hX => by simp [fBlocks] at hb; have := HE0.out.size; omega, fun b hb => Nat.lt_of_lt_of_le hb (Nat.le_trans HE0.out.size E1.size)⟩
  have HE1 := Lib.hid (HE0.out.trans' E1 (fun _ _ g => g.elim))
  have HF1 := Lib.hid F1
  clear E1 F0 F1 hbf hbm HE0
  obtain ⟨R, hR⟩ : ∃ R, R = min (max room 1) 4 := ⟨_, rfl⟩
  rw [← hR] at HF1
  clear hR
  have HA1 := Lib.hid (HA.out.keeps HE1.out)
  have HB1 := Lib.hid (BB.out.keeps HE1.out (fun e => by have e' : wB.heap.size ≤ w.heap.size := e; omega))
  go_wp2_with fail
  refine (few_c HA1.out).mono ?_
  rintro e w1' ⟨rfl, cc, rfl, hcc⟩
  have c0 := HB1.out.cell (i := 0) (v := .int .i64 ka) (by rfl)
  have c1 := HB1.out.cell (i := 1) (v := .int .i64 sa) (by rfl)
  have c2 := HB1.out.cell (i := 2) (v := .int .i64 ba) (by rfl)
  have c3 := HB1.out.cell (i := 3) (v := .string S) (by rfl)
  cases cc with
  | false =>
    go_wp2
    go_ret
    exact LawPost.based KB.out rfl HE1.out
  | true =>
    have hn60 := hcc rfl
    clear hcc
    go_wp2_with fail
    obtain ⟨w2, hw2⟩ : ∃ w2, w2 = w1'.alloc (.cells #[.int .i64 ka, .int .i64 sa, .int .i64 ba, .string S] 36) := ⟨_, rfl⟩
    have B2 : Blk w2 w1'.heap.size (.cells #[.int .i64 ka, .int .i64 sa, .int .i64 ba, str ra] 36) := by rw [hw2, HS.out]; exact Blk.new _ _
    have HO := Lib.hid (ActsAt.one B2 hsa)
    have HF2 := Lib.hid (show FV (Old wB) w2 bf bm R [] from by rw [hw2]; exact (HF1.out.alloc _).widen (fun b hb => .inl hb))
    have HK2 := Lib.hid (show Keeps (New' wB) wB w2 from by rw [hw2]; exact HE1.out.alloc _)
    have HB2 := Lib.hid (show Blk w2 w.heap.size (.cells #[.int .i64 ka, .int .i64 sa, .int .i64 ba, .string S] 36) from by rw [hw2]; exact HB1.out.alloc _)
    clear B2 HF1 HE1 HA1 HB1 c0 c1 c2 c3
    rw [← hw2]
    clear hw2
    refine (few_c HO.out).mono ?_
    rintro e w2' ⟨rfl, cc, rfl, _⟩
    have c0 := HB2.out.cell (i := 0) (v := .int .i64 ka) (by rfl)
    have c1 := HB2.out.cell (i := 1) (v := .int .i64 sa) (by rfl)
    have c2 := HB2.out.cell (i := 2) (v := .int .i64 ba) (by rfl)
    have c3 := HB2.out.cell (i := 3) (v := .string S) (by rfl)
    cases cc with
    | false =>
      go_wp2
      go_ret
      exact LawPost.based KB.out rfl HK2.out
    | true =>
    by_cases hss : sa = s
    · have hss' : (sa == s) = true := by simpa using hss
      go_wp2
      go_ret
      exact LawPost.based KB.out rfl HK2.out
    have hss' : (sa == s) = false := by simpa using hss
    by_cases hk2 : ka = 2
    · have hk2' : (ka == 2) = true := by simpa using hk2
      go_wp2
      go_ret
      exact LawPost.based KB.out rfl HK2.out
    have hk2' : (ka == 2) = false := by simpa using hk2
    have HSS := Lib.hid hss
    have HKN := Lib.hid hk2
    clear hss hk2
    go_wp2_with fail
    go_loopw [12] (fun i wr => ActRel wB bf bm R n i wr) (fun i _ => n - (intOf i).toNat)
    case atStart => exact ⟨0, [], Nat.zero_le _, rfl, HF2.out, Nat.le_refl _, HK2.out⟩
    case round =>
      obtain ⟨k, A, hk, rfl, hF, hAl, hK⟩ := hrel
      have HF := Lib.hid hF
      have HK := Lib.hid hK
      have HAr := Lib.hid (HA.out.keeps hK)
      have HBr := Lib.hid (BB.out.keeps hK (fun e => by have e' : wB.heap.size ≤ w.heap.size := e; omega))
      clear hF hK c0 c1 c2 c3
      by_cases hlt : k < n
      · obtain ⟨a', c', e', _, hc⟩ := HAr.out
        obtain ⟨b, o, ha, _, h0, h1, h2, h3, hrng⟩ := hc k hlt
        injection e' with e1 e2 e3
        rw [e1, ha]
        clear hc e2 e3 ha e1
        generalize acts k = ac at h0 h1 h2 h3 hrng
        obtain ⟨kx, sx, bx, rx⟩ := ac
        dsimp only at h0 h1 h2 h3 hrng
        go_wp2_with fail
        refine (do_c HF.out kx sx bx rx hrng (by omega)).mono ?_
        rintro e w3 ⟨⟨v, rfl⟩, F3, K3⟩
        have HRel := Lib.hid (show ActRel wB bf bm R n (.int .i64 ((k + 1 : Nat) : Int)) w3 from ⟨k + 1, _, by omega, rfl, F3, by have := doA_len R A kx sx bx rx; omega, HK.out.trans' K3 (fun x hx h => by show _ ≤ _; have h' : ¬ x < wB.heap.size := h; omega)⟩)
        clear F3 K3 h0 h1 h2 h3 HF HK HAr HBr HF2 HK2 HB2
        go_wp2
        go_roundw
        case rel => simpa using HRel.out
        case measure => simp [intOf]; omega
      · clear HAr HF2 HK2 HB2 HA
        have c0 := HBr.out.cell (i := 0) (v := .int .i64 ka) (by rfl)
        have c1 := HBr.out.cell (i := 1) (v := .int .i64 sa) (by rfl)
        have c2 := HBr.out.cell (i := 2) (v := .int .i64 ba) (by rfl)
        have c3 := HBr.out.cell (i := 3) (v := .string S) (by rfl)
        go_wp2_with fail
        refine (follows_v HF.out s).mono ?_
        rintro e w3 ⟨rfl, rfl⟩
        go_wp2_with fail
        refine (waiting_v HF.out s).mono ?_
        rintro e w3 ⟨rfl, rfl⟩
        go_wp2_with fail
        have HD := do_c HF.out ka sa ba ra hsa (by omega)
        rw [HS.out] at HD
        refine HD.mono ?_
        rintro e w4 ⟨⟨v, rfl⟩, F4, K4⟩
        have HF4 := Lib.hid F4
        have HK4 := Lib.hid (HK.out.trans' K4 (fun x hx h => by show _ ≤ _; have h' : ¬ x < wB.heap.size := h; omega))
        have HFD := Lib.hid (follows_do (room := R) (A := A) (k := ka) (s := sa) (b := ba) (r := ra) (o := s) (fun e => HSS.out e.symm) HKN.out)
        have HWD := Lib.hid (waits_do (room := R) (A := A) (k := ka) (s := sa) (b := ba) (r := ra) (o := s) (fun e => HSS.out e.symm) HKN.out)
        clear F4 K4 HD HF HK HBr c0 c1 c2 c3
        obtain ⟨f0, hf0⟩ : ∃ f0, f0 = followsV A s := ⟨_, rfl⟩
        obtain ⟨n0, hn0⟩ : ∃ n0, n0 = waitsV A s := ⟨_, rfl⟩
        rw [← hf0] at HFD ⊢
        rw [← hn0] at HWD ⊢
        clear hf0 hn0
        go_wp2_with fail
        refine (follows_v HF4.out s).mono ?_
        rintro e w5 ⟨rfl, rfl⟩
        rw [HFD.out]
        go_wp2_with fail
        refine (waiting_v HF4.out s).mono ?_
        rintro e w5 ⟨rfl, rfl⟩
        rw [HWD.out]
        go_wp2
        go_ret
        refine LawPost.based KB.out ?_ HK4.out
        try rfl
        try simp
end Go.Proofs.Ytdempgabidbjfaa
