/- Parts of the proof, one behind the other: CurL, SameA, CurM, RefFi, CurN, RefAh. Each is under no condition but those that it states. -/
import Derived.Test.YtneojlgbcaejmaaGreatDoorBa35
import Derived.Test.YtneojlgbcaejmaaGreatDoorBa38
import Derived.Test.YtneojlgbcaejmaaGreatDoorBa33
import Derived.Test.YtneojlgbcaejmaaGreatDoorBa25
import Derived.Test.YtneojlgbcaejmaaGreatDoorBa21
/- law 09: works. -/
namespace Go.Proofs.YtneojlgbcaejmaaGreatDoor
section
open Go Go.RowKit
set_option linter.unusedSimpArgs false
set_option linter.unusedVariables false
attribute [local go_sem] Oper.semAt_some
def exN : List Pair := [(⟨#[97]⟩, ⟨#[49]⟩), (⟨#[98]⟩, ⟨#[50]⟩), (⟨#[99]⟩, ⟨#[51]⟩)]
theorem exN_ok : checkN exN = 0 := by decide +kernel
theorem exN_few : fewB exN = true := by decide +kernel
theorem exN_inj : InjL (textsL exN) := by unfold InjL; decide +kernel
theorem exN_from1 : fromL ⟨#[97, 97]⟩ exN = [(⟨#[98]⟩, ⟨#[50]⟩), (⟨#[99]⟩, ⟨#[51]⟩)] := by decide +kernel
theorem exN_from2 : fromL ⟨#[97]⟩ exN = exN := by decide +kernel
theorem exN_upto : uptoL ⟨#[98]⟩ exN = [(⟨#[97]⟩, ⟨#[49]⟩), (⟨#[98]⟩, ⟨#[50]⟩)] := by decide +kernel
theorem exN_from3 : fromL ⟨#[99]⟩ exN = [(⟨#[99]⟩, ⟨#[51]⟩)] := by decide +kernel
theorem rdp_lit (w : World) (xs : List Pair) (T : TypeId) : RdP (w.alloc (.cells (cellsP xs).toArray T)) (.slice (some ⟨w.heap.size, 0, none⟩) xs.length xs.length) xs := by
  refine .inr ⟨_, 0, _, rfl, (Blk.new w _).lt, Nat.le_refl _, fun j x hx => ?_⟩
  obtain ⟨h1, h2⟩ := cellsP_get xs j x hx
  exact ⟨by rw [Nat.zero_add]; exact (Blk.new w _).cellL h1, by rw [Nat.zero_add]; exact (Blk.new w _).cellL h2⟩
def W9P (w1 : World) (e : Ending) (w2 : World) : Prop := ∃ g cap, e = .returned (.tuple #[.slice (some ⟨g, 0, none⟩) 1 cap, .string ⟨#[99]⟩, .int .i64 0]) ∧ Ext w1 w2 ∧ w2.cell? ⟨g, 0, none⟩ = some (.string ⟨#[98]⟩)
def W9R (w1 : World) (e : Ending) (w2 : World) : Prop := ∃ ad cap, e = .returned (.tuple #[.slice ad 2 cap, .bool false, .int .i64 0]) ∧ Ext w1 w2
set_option maxRecDepth 100000 in
set_option maxHeartbeats 8000000 in
theorem works9_c (w : World) (hc : Cubes w) : Calls Tryz.prog 11 #[] w fun e w' => e = .returned (.bool true) ∧ Ext w w' := by
  have HC := Lib.hid hc
  clear hc
  go_enter Tryz.func11, Tryz.ntmps11
  go_wp2_with fail
  have hx0 : Ext w (w.alloc (.cells #[.string ⟨#[97]⟩, .string ⟨#[49]⟩, .string ⟨#[98]⟩, .string ⟨#[50]⟩, .string ⟨#[99]⟩, .string ⟨#[51]⟩] 45)) := (ExtR w).alloc _
  refine (hold08_c _ (HC.out.ext hx0) _ exN (rdp_lit w exN 45) (by decide) (fun p hp => by
    have : ∀ p ∈ exN, p.1.size ≤ 9223372036854775807 ∧ p.2.size ≤ 9223372036854775807 := by decide
    exact this p hp)).mono ?_
  rintro e w1 (⟨_, _, hno⟩ | ⟨s, bm, S, rfl, hE, hS, hM, hk, _, _⟩)
  · exact absurd ⟨exN_few, exN_ok, exN_inj⟩ hno
  have HE1 := Lib.hid (hx0.trans hE)
  have HS1 := Lib.hid hS
  have HM := Lib.hid (And.intro hM hk)
  obtain ⟨rt, hrt⟩ : ∃ rt, rt = shaB (trieT exN).text := ⟨_, rfl⟩
  have HRT := Lib.hid hrt
  rw [← hrt]
  clear hE hS hM hk hx0 hrt
  go_wp2_with fail
  have hpg : Calls Tryz.prog 13 #[.pointer (some ⟨s, 0, none⟩), .string rt, .string ⟨#[97, 97]⟩, .int .i64 1] w1 (W9P w1) := by
    have hpg := page_c w1 s bm 2000 S ⟨#[97, 97]⟩ exN 1 (by decide) HM.out.1 HS1.out
    rw [exN_from1, ← HRT.out] at hpg
    refine hpg.mono ?_
    rintro e w2 ⟨hE, hpp⟩
    rw [if_pos (by decide)] at hpp
    obtain ⟨lv, h1, hR⟩ := hpp
    obtain ⟨h2, ⟨h3, h4⟩ | ⟨g, cap, cur, h3, _⟩⟩ := hR.own
    · cases h4
    · refine ⟨g, cap, ?_, hE, ?_⟩
      · rw [h1, h3]; rfl
      · have := hR.own.cells (g := g) (by rw [h3]; rfl) 0 (.string ⟨#[98]⟩) (by rfl)
        rwa [Addr.add_lit, Nat.zero_add] at this
  refine hpg.mono ?_
  rintro e w2 ⟨g, cap, rfl, hE, qb⟩
  have HE2 := Lib.hid (HE1.out.trans hE)
  have HS2 := Lib.hid (HS1.out.ext hE)
  have QB := Lib.hid qb
  clear hE qb HE1 HS1 hpg
  go_wp2_with fail
  have hrg : Calls Tryz.prog 15 #[.pointer (some ⟨s, 0, none⟩), .string rt, .string ⟨#[97]⟩, .string ⟨#[98]⟩, .int .i64 8] w2 (W9R w2) := by
    have hrg := range_c w2 s bm 2000 S ⟨#[97]⟩ ⟨#[98]⟩ exN 8 (by decide) HM.out.1 HS2.out
    rw [exN_from2, ← HRT.out] at hrg
    refine hrg.mono ?_
    rintro e w3 ⟨hE, hpp⟩
    rw [if_pos (by decide), exN_upto] at hpp
    obtain ⟨lv, h1, hR⟩ := hpp
    obtain ⟨ad, cp, h3⟩ := row_slice hR.own
    exact ⟨ad, cp, by rw [h1, h3]; rfl, hE⟩
  refine hrg.mono ?_
  rintro e w3 ⟨ad, cp, rfl, hE⟩
  have HE3 := Lib.hid (HE2.out.trans hE)
  have HS3 := Lib.hid (HS2.out.ext hE)
  have QB3 := Lib.hid (cell_ext QB.out hE)
  clear hE hrg HE2 HS2 QB
  go_wp2_with fail
  have hct := count_c w3 s bm 2000 S exN HM.out.1 HS3.out
  rw [← HRT.out] at hct
  refine hct.mono ?_
  rintro e w4 ⟨rfl, hE⟩
  have HE4 := Lib.hid (HE3.out.trans hE)
  have HS4 := Lib.hid (HS3.out.ext hE)
  have QB4 := Lib.hid (cell_ext QB3.out hE)
  clear hE hct HE3 HS3 QB3
  rw [show ((exN.length : Nat) : Int) = 3 from rfl]
  go_wp2_with fail
  have hsk := seek_c w4 s bm 2000 S ⟨#[99]⟩ exN (by decide) HM.out.1 HS4.out
  rw [← HRT.out] at hsk
  refine hsk.mono ?_
  rintro e w5 ⟨c, v, rfl, hc1, hv1, hE, hC⟩
  rw [rest_from, exN_from3] at hC
  have HE5 := Lib.hid (HE4.out.trans hE)
  have HS5 := Lib.hid (HS4.out.ext hE)
  have QB5 := Lib.hid (cell_ext QB4.out hE)
  have HC5 := Lib.hid hC
  have HCC := Lib.hid (And.intro hc1 hv1)
  have HZ4 := Lib.hid (And.intro HE4.out.size (World.block_lt_of_cell? w4 _ QB4.out))
  clear hE hsk HE4 HS4 QB4 hC hc1 hv1
  go_wp2_with fail
  have hno : atL S (⟨#[63]⟩ : ByteArray).data.toList = none := by
    cases ha : atL S (⟨#[63]⟩ : ByteArray).data.toList with
    | none => rfl
    | some y =>
      obtain ⟨t, _, ht⟩ := (HM.out.2 _).1 (has_iff.1 (show (atL S (⟨#[63]⟩ : ByteArray).data.toList).isSome = true by rw [ha]; rfl))
      have h1 := congrArg List.length ht
      have h2 : (ky t).length = 32 := shaB_size t
      rw [h2] at h1; cases h1
  refine (seek_no w5 s bm 2000 S ⟨#[63]⟩ ⟨#[]⟩ HS5.out hno).mono ?_
  rintro e w6 ⟨rfl, hE⟩
  have HE6 := Lib.hid (HE5.out.trans hE)
  have HS6 := Lib.hid (HS5.out.ext hE)
  have QB6 := Lib.hid (cell_ext QB5.out hE)
  have HC6 := Lib.hid (HC5.out.ext hE)
  clear hE hno HE5 HS5 QB5 HC5
  go_wp2_with fail
  refine (cPeek_c w6 c s bm 2000 S (pathB ⟨#[99]⟩) _ v (by rw [path_size]; decide) HC6.out HS6.out).mono ?_
  rintro e w7 ⟨rfl, v7, hT⟩
  rw [peekV_rows, show peekE [((⟨#[99]⟩ : ByteArray), (⟨#[51]⟩ : ByteArray))] = .tuple #[.string ⟨#[99]⟩, .bool true] from rfl]
  have HS7 := Lib.hid (HC6.out.store HS6.out hT.kp.1)
  have HT7 := Lib.hid hT
  clear hT HS6
  go_wp2_with fail
  refine (cNext_c w7 c s bm 2000 S (pathB ⟨#[99]⟩) _ v7 (by rw [path_size]; decide) HT7.out.at' HS7.out).mono ?_
  rintro e w8 ⟨rfl, v8, hT⟩
  rw [nextV_rows, show nextE [((⟨#[99]⟩ : ByteArray), (⟨#[51]⟩ : ByteArray))] = .tuple #[.agg #[.string ⟨#[99]⟩, .string ⟨#[51]⟩], .bool true] from rfl]
  have HS8 := Lib.hid (HT7.out.at'.store HS7.out hT.kp.1)
  have HT8 := Lib.hid (HT7.out.trans hT)
  clear hT HS7
  go_wp2_with fail
  have hx8 : Ext w8 (w8.alloc (.cells #[.string ⟨#[99]⟩, .string ⟨#[51]⟩] 45)) := (ExtR w8).alloc _
  have hB8 := Blk.new w8 (.cells #[.string ⟨#[99]⟩, .string ⟨#[51]⟩] 45)
  have hat8 : CurAt S c s (pathB ⟨#[99]⟩) (rowsL []) w8 v8 := HT8.out.at'
  refine (cNext_c _ c s bm 2000 S (pathB ⟨#[99]⟩) (rowsL []) v8 (by rw [path_size]; decide) (hat8.ext hx8) (HS8.out.ext hx8)).mono ?_
  rintro e w9 ⟨rfl, v9, hT⟩
  rw [nextV_rows, show nextE ([] : List Pair) = .tuple #[.agg #[.string ⟨#[]⟩, .string ⟨#[]⟩], .bool false] from rfl]
  have hcl8 := HT8.out.at'.lt
  have hb9 := hB8.keeps hT.kp.1 (fun e => by
    rcases e with e | e
    · have := hcl8.1; omega
    · have := hcl8.2 _ e; omega)
  have hall := (HT8.out.trans (CurTo.ahead hx8 hT)).kp
  have hz4 := HZ4.out
  have hg4 : g < w4.heap.size := hz4.2
  have qg9 := cell_keeps QB6.out hall.1 (fun e => by
    rcases e with e | e
    · have e : g = c := e; have := HCC.out.1; omega
    · have := HCC.out.2 g e; omega)
  have hE9 : Ext w w9 := HE6.out.trans' hall.1 (fun b hb e => by
    rcases e with e | e
    · have := HCC.out.1; omega
    · have := HCC.out.2 _ e; omega)
  have qx9 := hb9.cell (i := 1) (v := .string ⟨#[51]⟩) (by rfl)
  have hX : Ext w9 (w9.alloc (.cells #[.string ⟨#[]⟩, .string ⟨#[]⟩] 45)) := (ExtR w9).alloc _
  have qg10 := cell_ext qg9 hX
  have qx10 := cell_ext qx9 hX
  have HE9 := Lib.hid (hE9.trans hX)
  clear hx8 hB8 hT hcl8 hb9 hall hz4 hE9 hX
  go_wp2_with fail
  go_ret
  exact ⟨rfl, HE9.out⟩
end
end Go.Proofs.YtneojlgbcaejmaaGreatDoor
/- reference 05: Same, of entries. -/
namespace Go.Proofs.YtneojlgbcaejmaaGreatDoor
section
open Go Go.RowKit
set_option linter.unusedSimpArgs false
set_option linter.unusedVariables false
def Sm5Rel (w : World) (l m : List Pair) (v : Value) (wr : World) : Prop := ∃ i : Nat, i ≤ l.length ∧ v = .int .i64 i ∧ Ext w wr ∧ l.take i = m.take i
set_option maxRecDepth 100000 in
set_option maxHeartbeats 4000000 in
theorem same_c (w : World) (v u : Value) (l m : List Pair) (hv : RdP w v l) (hu : RdP w u m) (hn : l.length ≤ 1000000) (hn2 : m.length ≤ 1000000) : Calls Tryz.prog 18 #[v, u] w fun e w' => e = .returned (.bool (sameL l m)) ∧ Ext w w' := by
  obtain ⟨a, c, hsl⟩ := hv.sl
  obtain ⟨a', c', hsl'⟩ := hu.sl
  have HV := Lib.hid hv
  have HU := Lib.hid hu
  subst hsl
  subst hsl'
  clear hv hu
  by_cases hlen : l.length = m.length
  · have hq : ((l.length : Int) == (m.length : Int)) = true := by simp; omega
    have hq3 : ((l.length : Int) != (m.length : Int)) = false := by simp; omega
    have HLN := Lib.hid hlen
    obtain ⟨n, hnn⟩ : ∃ n, n = l.length := ⟨_, rfl⟩
    rw [← hlen, ← hnn]
    rw [← hnn] at hn
    have HN := Lib.hid hnn
    clear hq hq3 hlen hnn hn2
    go_enter Tryz.func18, Tryz.ntmps18
    go_wp2_with fail
    go_loopw [5] (fun i wr => Sm5Rel w l m i wr) (fun i _ => n - (intOf i).toNat)
    case atStart => exact ⟨0, by omega, rfl, ExtR w, by simp⟩
    case round =>
      obtain ⟨i, hi, rfl, hE, hall⟩ := hrel
      have HE := Lib.hid hE
      have HALL := Lib.hid hall
      have hi : i ≤ n := by rw [HN.out]; exact hi
      clear hE hall
      by_cases hlt : i < n
      · have hl1 : i < l.length := by have := HN.out; omega
        have hl2 : i < m.length := by have := HN.out; have := HLN.out; omega
        rcases HV.out with ⟨_, _, _, h0⟩ | ⟨b, o, c1, hh, hb, hc, hcell⟩
        · rw [h0] at hl1; cases hl1
        rcases HU.out with ⟨_, _, _, h0⟩ | ⟨b', o', c2, hh', hb', hc', hcell'⟩
        · rw [h0] at hl2; cases hl2
        obtain ⟨rfl, hx1, hx2⟩ := Value.slice.inj hh
        obtain ⟨rfl, hx3, hx4⟩ := Value.slice.inj hh'
        obtain ⟨p, hp⟩ : ∃ p, l[i]? = some p := ⟨_, List.getElem?_eq_getElem hl1⟩
        obtain ⟨q, hq⟩ : ∃ q, m[i]? = some q := ⟨_, List.getElem?_eq_getElem hl2⟩
        obtain ⟨q1, q2⟩ := hcell i p hp
        obtain ⟨q3, q4⟩ := hcell' i q hq
        have hla : ∀ w1, Ext wr w1 → (Instr.loadAt 45 (.pointer (some ⟨b, o + i * 2, none⟩))).run Tryz.prog w1 = .ok (.agg #[.string p.1, .string p.2]) w1 := fun w1 h1 => load_pair (cell_ext q1 (HE.out.trans h1)) (cell_ext q2 (HE.out.trans h1))
        have hlb : ∀ w1, Ext wr w1 → (Instr.loadAt 45 (.pointer (some ⟨b', o' + i * 2, none⟩))).run Tryz.prog w1 = .ok (.agg #[.string q.1, .string q.2]) w1 := fun w1 h1 => load_pair (cell_ext q3 (HE.out.trans h1)) (cell_ext q4 (HE.out.trans h1))
        have hnp := fun w => neq_pair p.1 p.2 q.1 q.2 w
        have HLA := Lib.hid hla
        have HLB := Lib.hid hlb
        have HNP := Lib.hid hnp
        have HP := Lib.hid hp
        have HQ := Lib.hid hq
        have b1 : (i : Int) < (n : Int) := by omega
        clear hcell hcell' hh hh' hx1 hx2 hx3 hx4 hp hq q1 q2 q3 q4 hla hlb hnp hl1 hl2 hc hc'
        go_wp2_with fail
        refine wp_region_mixK [0,1,2,3,4,5,6,7,8] Ext ExtR ExtT (by kernel_rfl) (by kernel_rfl) (by kernel_rfl) ?_
        iterate 3 (refine mixk_pure _ rfl (by kernel_rfl) rfl rfl (fun K hK => ?_); go_big_quiet_op; refine hK _ ?_; clear hK K)
        refine mixk_load ⟨b, o + i * 2, none⟩ _ rfl (by kernel_rfl) rfl rfl (fun w1 h1 => HLA.out w1 ((drewE wr).trans h1)) ?_
        simp only [Act.put, List.setIfInBounds_toArray, List.set_cons_zero, List.set_cons_succ]
        iterate 3 (refine mixk_pure _ rfl (by kernel_rfl) rfl rfl (fun K hK => ?_); go_big_quiet_op; refine hK _ ?_; clear hK K)
        refine mixk_load ⟨b', o' + i * 2, none⟩ _ rfl (by kernel_rfl) rfl rfl (fun w1 h1 => HLB.out w1 ((drewE wr).trans h1)) ?_
        simp only [Act.put, List.setIfInBounds_toArray, List.set_cons_zero, List.set_cons_succ]
        refine mixk_val _ (.bool (!eqP p q)) rfl (by kernel_rfl) rfl (fun w1 h1 => exec_bin rfl rfl (by kernel_rfl) (HNP.out w1)) ?_
        simp only [Act.put, List.setIfInBounds_toArray, List.set_cons_zero, List.set_cons_succ]
        refine mixk_end (by kernel_rfl) (fun w3 he => ?_)
        have HE3 := Lib.hid ((HE.out.trans (drewE wr)).trans he)
        clear he
        cases hpq : eqP p q with
        | true =>
          have hpe := (eqP_iff p q).1 hpq
          have HT := Lib.hid (show l.take (i + 1) = m.take (i + 1) by rw [List.take_add_one, List.take_add_one, HP.out, HQ.out, HALL.out, hpe])
          clear hpq hpe
          go_wp2_with fail
          go_roundw
          case rel => exact ⟨i + 1, by have := HN.out; omega, by go_num, HE3.out, HT.out⟩
          case measure => simp [intOf]; omega
        | false =>
          have HF := Lib.hid (show sameL l m = false by
            cases hs : sameL l m with
            | false => rfl
            | true =>
              have e := (sameL_iff l m).1 hs
              have e1 := HP.out
              rw [e, HQ.out] at e1
              rw [← Option.some.inj e1, (eqP_iff q q).2 rfl] at hpq; cases hpq)
          clear hpq
          go_wp2_with fail
          go_ret
          exact ⟨by rw [HF.out]; rfl, HE3.out⟩
      · have hin : i = n := by omega
        have HF := Lib.hid (show sameL l m = true by
          rw [sameL_iff]
          have := HALL.out
          rw [hin, HN.out, List.take_length, HLN.out, List.take_length] at this; exact this)
        go_wp2_with fail
        go_ret
        exact ⟨by rw [HF.out]; rfl, HE.out⟩
  · have hq : ((l.length : Int) == (m.length : Int)) = false := by simp; omega
    have hq3 : ((l.length : Int) != (m.length : Int)) = true := by simp; omega
    have hq2 : ¬ (l.length : Int) = (m.length : Int) := by omega
    have HF := Lib.hid (show sameL l m = false by
      cases hs : sameL l m with
      | false => rfl
      | true => exact absurd (by rw [(sameL_iff l m).1 hs]) hlen)
    go_enter Tryz.func18, Tryz.ntmps18
    go_wp2_with fail
    go_ret
    exact ⟨by rw [HF.out]; rfl, ExtR w⟩
end
end Go.Proofs.YtneojlgbcaejmaaGreatDoor
/- law 09: CursorSplits, its walk. -/
namespace Go.Proofs.YtneojlgbcaejmaaGreatDoor
section
open Go Go.RowKit
set_option linter.unusedSimpArgs false
set_option linter.unusedVariables false
attribute [local go_sem] Oper.semAt_some
theorem lt_of_not (a b : List UInt8) (h : ¬ Lt a b) (k : a ≠ b) : Lt b a := by
  rcases lt_total a b with h1 | h1 | h1
  · exact absurd h1 h
  · exact absurd h1 k
  · exact h1
theorem le_lt {a b c : List UInt8} (h : ¬ Lt b a) (k : Lt b c) : Lt a c := by
  rcases lt_total a b with h1 | h1 | h1
  · exact lt_trans' _ _ _ h1 k
  · rw [h1]; exact k
  · exact absurd h1 h
/-- Those from the key on that stands at a place. -/
theorem from_drop {l : List Pair} (hr : l.Pairwise fun p q => Lt p.l q.l) {fr : ByteArray} {x : Nat} {q : Pair} (hq : (fromL fr l)[x]? = some q) : fromL q.1 l = (fromL fr l).drop x := by
  have hE : (fromL fr l).Pairwise fun p q => Lt p.l q.l := hr.filter _
  have hm : q ∈ fromL fr l := List.mem_of_getElem? hq
  have hqf : lessB q.1 fr = false := by simpa using (List.mem_filter.1 hm).2
  have h1 : fromL q.1 l = (fromL fr l).filter fun p => !lessB p.1 q.1 := by
    unfold fromL
    rw [List.filter_filter]
    refine List.filter_congr fun p hp => ?_
    cases hpq : lessB p.1 q.1 with
    | true => rfl
    | false =>
      have : lessB p.1 fr = false := by
        rw [Bool.eq_false_iff]
        intro h
        have h2 : ¬ Lt q.1.data.toList fr.data.toList := fun h => by rw [(lessB_iff _ _).2 h] at hqf; cases hqf
        have h3 : ¬ Lt p.1.data.toList q.1.data.toList := fun h => by rw [(lessB_iff _ _).2 h] at hpq; cases hpq
        exact h2 (le_lt h3 ((lessB_iff _ _).1 h))
      simp [this]
  rw [h1]
  generalize fromL fr l = E at *
  have e : E = E.take x ++ E.drop x := (List.take_append_drop x E).symm
  conv => lhs; rw [e]
  rw [List.filter_append]
  have ha : (E.take x).filter (fun p => !lessB p.1 q.1) = [] := by
    rw [List.filter_eq_nil_iff]
    intro p hp
    obtain ⟨i, hi⟩ := List.getElem?_of_mem hp
    rw [List.getElem?_take] at hi
    split at hi
    · rename_i hix
      have := pair_get hE hix hi hq
      simp [(lessB_iff p.1 q.1).2 this]
    · cases hi
  have hb : (E.drop x).filter (fun p => !lessB p.1 q.1) = E.drop x := by
    rw [List.filter_eq_self]
    intro p hp
    obtain ⟨i, hi⟩ := List.getElem?_of_mem hp
    rw [List.getElem?_drop] at hi
    have : ¬ lessB p.1 q.1 = true := fun h => by
      have h := (lessB_iff _ _).1 h
      by_cases h0 : i = 0
      · subst h0
        rw [Nat.add_zero, hq] at hi
        obtain rfl := Option.some.inj hi
        exact lt_irrefl _ h
      · exact lt_irrefl _ (lt_trans' _ _ _ h (pair_get hE (by omega) hq hi))
    simpa using this
  rw [ha, hb, List.nil_append]
theorem keyHd_drop (E : List Pair) (x : Nat) : keyHd (E.drop x) = (match E[x]? with | some q => q.1 | none => ⟨#[]⟩) := by
  cases h : E[x]? with
  | none => rw [List.drop_of_length_le (List.getElem?_eq_none_iff.1 h)]; rfl
  | some q =>
    obtain ⟨h1, rfl⟩ := List.getElem?_eq_some_iff.1 h
    rw [List.drop_eq_getElem_cons h1]; rfl
/-- append, of what is wanted. -/
theorem wpList_app_w {P : Program} {t T : TypeId} {sz by' : Nat} (I : SInfo P t T sz by') {w0 w : World} {v : Value} {n : Nat} {xs : List Value} {o : Oper} {a : Act} {g m c : Nat} {news : List Value} {ops : Array Oper} {rest : List Oper} {Q : Exit → Act → World → Prop} (hR : ORow T sz w0 w v n xs) (s x : Operand) (hw : Region.wanted o (yielded ops a.tmps) = true) (hs : a.eval s = v) (hx : a.eval x = .slice (some ⟨g, 0, none⟩) m c) (hB : ∀ j u, news[j]? = some u → w.cell? ((⟨g, 0, none⟩ : Addr).add j) = some u) (h1 : ∀ u ∈ news, u.oneCell' = true) (hl : news.length = m * sz)
    (ho : o.op = Op.call { callee := Callee.builtin Builtin.append, args := #[s, x], argTypes := #[t, t] }) (h63 : n + m ≤ maxLen) (hby : (n + m) * by' ≤ 140737488355328)
    (h : ∀ v' w', ORow T sz w0 w' v' (n + m) (xs ++ news) → Keeps (fun b => v.ownBlock = some b) w w' → (v'.ownBlock = v.ownBlock ∨ ∀ b, v'.ownBlock = some b → w.heap.size ≤ b) → wpList P ops Q rest (a.put o.dst v') w') : wpList P ops Q (o :: rest) a w := by
  unfold wpList
  rw [if_pos hw]
  exact .inl (wp_app I hR s x hs hx hB h1 hl ho h63 hby h)
theorem cells_keep {F : BSet} {w w' : World} {g : Nat} {xs : List Value} (h : ∀ j u, xs[j]? = some u → w.cell? ((⟨g, 0, none⟩ : Addr).add j) = some u) (k : Keeps F w w') (hF : ¬ F g) : ∀ j u, xs[j]? = some u → w'.cell? ((⟨g, 0, none⟩ : Addr).add j) = some u := by
  intro j u hj
  have := h j u hj
  rw [Addr.add_lit] at this ⊢
  exact cell_keeps this k hF
/-- A row of entries that is not empty, opened. -/
theorem NRow.open {W w : World} {v : Value} {xs : List Pair} (h : NRow W w v xs) (hn : xs ≠ []) : ∃ g cap, v = .slice (some ⟨g, 0, none⟩) xs.length cap ∧ W.heap.size ≤ g ∧ g < w.heap.size ∧ ∀ j u, (cellsP xs)[j]? = some u → w.cell? ((⟨g, 0, none⟩ : Addr).add j) = some u := by
  obtain ⟨h1, ⟨h2, h3⟩ | ⟨g, cap, cur, h2, h3, h4, h5⟩⟩ := h.own
  · exact absurd (List.eq_nil_of_length_eq_zero h3) hn
  · exact ⟨g, cap, h2, h.new g (by rw [h2]; rfl), (Array.getElem?_eq_some_iff.1 h4).1, fun j u hj => h.own.cells (g := g) (by rw [h2]; rfl) j u hj⟩
theorem cellsP_one (xs : List Pair) : ∀ u ∈ cellsP xs, u.oneCell' = true := by
  intro u hu
  obtain ⟨p, _, hu⟩ := List.mem_flatMap.1 hu
  exact two_one _ _ u hu
theorem key_ne {l : List Pair} (h : checkN l = 0) {fr : ByteArray} {x : Nat} {q : Pair} (hq : (fromL fr l)[x]? = some q) : q.1.size ≠ 0 ∧ q.1.size ≤ 6 := by
  have := (check_ok h).size q (List.mem_filter.1 (List.mem_of_getElem? hq)).1
  omega
def PgP (E : List Pair) (x : Nat) (W : World) (e : Ending) (w' : World) : Prop := ∃ lv, e = .returned (.tuple #[lv, .string (keyHd (E.drop x)), .int .i64 0]) ∧ Ext W w' ∧ NRow W w' lv (E.take x)
theorem page_ok (W : World) (s bm : Nat) (room : Int) (S : List Nd5) (fr : ByteArray) (l : List Pair) (x : Nat) (h1 : 1 ≤ x) (h2 : x ≤ 8) (hf : fr.size ≤ 100000) (hM : HasM S l) (hs : StoreAt W s bm room S) :
    Calls Tryz.prog 13 #[.pointer (some ⟨s, 0, none⟩), .string (shaB (trieT l).text), .string fr, .int .i64 (x : Int)] W (PgP (fromL fr l) x W) := by
  refine (page_c W s bm room S fr l (x : Int) hf hM hs).mono ?_
  rintro e w' ⟨hE, hp⟩
  rw [if_pos (by omega), Int.toNat_natCast] at hp
  obtain ⟨lv, h3, h4⟩ := hp
  exact ⟨lv, h3, hE, h4⟩
set_option maxRecDepth 100000 in
set_option maxHeartbeats 8000000 in
theorem splits_c (w : World) (hc : Cubes w) (v : Value) (l : List Pair) (hv : RdP w v l) (hn : l.length ≤ 9223372036854775807) (hs : SmallP l) (fr : ByteArray) (hfr : fr.size ≤ 9223372036854775807) (a b : Nat) (ha : a < 256) (hb : b < 256) :
    Calls Tryz.prog 6 #[v, .string fr, .int .u8 a, .int .u8 b] w fun e w' => e = .returned (.bool true) ∧ Ext w w' := by
  have HC := Lib.hid hc
  have HV := Lib.hid hv
  have HS := Lib.hid hs
  have HN := Lib.hid hn
  obtain ⟨ad, c, hsl⟩ := hv.sl
  subst hsl
  clear hc hv hs hn
  obtain ⟨x, hx⟩ : ∃ x : Nat, x = 1 + a % 4 := ⟨_, rfl⟩
  obtain ⟨y, hy⟩ : ∃ y : Nat, y = 1 + b % 4 := ⟨_, rfl⟩
  have hx1 : (1 : Int) + (a : Int) % 4 = (x : Int) := by omega
  have hy1 : (1 : Int) + (b : Int) % 4 = (y : Int) := by omega
  have hxb : 1 ≤ x ∧ x ≤ 4 := by omega
  have hyb : 1 ≤ y ∧ y ≤ 4 := by omega
  clear hx hy
  go_enter Tryz.func6, Tryz.ntmps6
  go_wp2_with fail
  refine (works9_c w HC.out).mono ?_
  rintro e w1 ⟨rfl, hE⟩
  have HE1 := Lib.hid hE
  clear hE
  go_wp2_with fail
  refine (hold08_c w1 (HC.out.ext HE1.out) _ l (HV.out.ext HE1.out) HN.out HS.out).mono ?_
  rintro e w2 (⟨rfl, hE, hno⟩ | ⟨s, bm, S, rfl, hE, hS, hM, hk, _, _⟩)
  · have HE2 := Lib.hid (HE1.out.trans hE)
    clear hE hno
    go_wp2_with fail
    go_ret
    exact ⟨rfl, HE2.out⟩
  have HE2 := Lib.hid (HE1.out.trans hE)
  have HS2 := Lib.hid hS
  have HM := Lib.hid hM
  obtain ⟨rt, hrt⟩ : ∃ rt, rt = shaB (trieT l).text := ⟨_, rfl⟩
  have HRT := Lib.hid hrt
  rw [← hrt]
  clear hE hS hM hk hrt
  by_cases hf50 : fr.size ≤ 50
  case neg =>
    have b0 : (50 : Int) < (fr.size : Int) := by omega
    go_wp2_with fail
    go_ret
    exact ⟨rfl, HE2.out⟩
  have b0 : ¬ (50 : Int) < (fr.size : Int) := by omega
  go_wp2_with fail
  obtain ⟨E, hEd⟩ : ∃ E, E = fromL fr l := ⟨_, rfl⟩
  have HED := Lib.hid hEd
  have hEl : E.length ≤ 40 := by
    rw [hEd]; unfold fromL
    exact Nat.le_trans (List.length_filter_le _ _) (check_ok HM.out.ok).len
  have hpg := page_ok w2 s bm 2000 S fr l x hxb.1 (by omega) (by omega) HM.out HS2.out
  rw [← HRT.out, ← hEd] at hpg
  refine hpg.mono ?_
  rintro e w3 ⟨pv, rfl, hE, hR⟩
  have HE3 := Lib.hid (HE2.out.trans hE)
  have HS3 := Lib.hid (HS2.out.ext hE)
  have HR3 := Lib.hid hR
  obtain ⟨nx, hnx⟩ : ∃ nx, nx = keyHd (E.drop x) := ⟨_, rfl⟩
  have HNX := Lib.hid hnx
  rw [← hnx]
  clear hpg hE hR hEd hnx HE2 HS2
  obtain ⟨z, hz⟩ : ∃ z : Nat, z = x + y := ⟨_, rfl⟩
  have hzi : (x : Int) + (y : Int) = (z : Int) := by omega
  have HZ := Lib.hid hz
  have hz8 : 2 ≤ z ∧ z ≤ 8 := by omega
  clear hz hx1 hy1
  go_wp2_with fail
  have hpg := page_ok w3 s bm 2000 S fr l z (by omega) (by omega) (by omega) HM.out HS3.out
  rw [← HRT.out, ← HED.out] at hpg
  refine hpg.mono ?_
  rintro e w4 ⟨av, rfl, hE, hR⟩
  have HE4 := Lib.hid (HE3.out.trans hE)
  have HS4 := Lib.hid (HS3.out.ext hE)
  have HA4 := Lib.hid hR
  have HR4 := Lib.hid (HR3.out.ext hE)
  obtain ⟨en, hen⟩ : ∃ en, en = keyHd (E.drop z) := ⟨_, rfl⟩
  have HEN := Lib.hid hen
  rw [← hen]
  clear hpg hE hR hen HE3 HS3 HR3
  cases hq : E[x]? with
  | none =>
    have hle := List.getElem?_eq_none_iff.1 hq
    have h1 : nx = ⟨#[]⟩ := by rw [HNX.out, List.drop_of_length_le hle]; rfl
    have h2 : en = ⟨#[]⟩ := by rw [HEN.out, List.drop_of_length_le (by have := HZ.out; omega)]; rfl
    have h3 : E.take x = E := List.take_of_length_le hle
    have h4 : E.take z = E := List.take_of_length_le (by have := HZ.out; omega)
    have HR := Lib.hid (show RdP w4 pv E by have := HR4.out.rd; rwa [h3] at this)
    have HA := Lib.hid (show RdP w4 av E by have := HA4.out.rd; rwa [h4] at this)
    subst h1
    subst h2
    clear hq hle h3 h4
    go_wp2_with fail
    refine (same_c w4 pv av E E HR.out HA.out (by omega) (by omega)).mono ?_
    rintro e w5 ⟨rfl, hE⟩
    rw [(sameL_iff E E).2 rfl]
    have HE5 := Lib.hid (HE4.out.trans hE)
    clear hE
    go_wp2_with fail
    go_ret
    exact ⟨rfl, HE5.out⟩
  | some q =>
    have hqx := (List.getElem?_eq_some_iff.1 hq).1
    have hnq : nx = q.1 := by rw [HNX.out, keyHd_drop, hq]
    have hqk := key_ne HM.out.ok (by rw [← HED.out]; exact hq)
    rw [← hnq] at hqk
    have hne : nx.toList.isEmpty = false := by
      rw [Bool.eq_false_iff]; intro h
      rw [List.isEmpty_iff] at h
      have : nx.toList.length = nx.size := by rw [ByteArray.toList_eq]; rfl
      rw [h] at this
      exact hqk.1 this.symm
    have HFD := Lib.hid (show fromL nx l = E.drop x by rw [hnq, HED.out]; exact from_drop (check_ok HM.out.ok).rise (by rw [← HED.out]; exact hq))
    have HQK := Lib.hid hqk
    clear hq hnq hqk
    go_wp2_with fail
    have hpg := page_ok w4 s bm 2000 S nx l y hyb.1 (by omega) (by have := HQK.out; omega) HM.out HS4.out
    rw [← HRT.out, HFD.out] at hpg
    refine hpg.mono ?_
    rintro e w5 ⟨qv, he, hE, hR⟩
    rw [List.drop_drop, ← HZ.out, ← HEN.out] at he
    subst he
    have hR5 := HR4.out.ext hE
    have hpn : E.take x ≠ [] := fun e => by have h := congrArg List.length e; rw [List.length_take, List.length_nil] at h; omega
    have hqn : (E.drop x).take y ≠ [] := fun e => by have h := congrArg List.length e; rw [List.length_take, List.length_drop, List.length_nil] at h; omega
    obtain ⟨gp, cp, rfl, hp1, hp2, hp3⟩ := hR5.open hpn
    obtain ⟨gq, cq, rfl, hq1, hq2, hq3⟩ := hR.open hqn
    have hlp : (E.take x).length = x := by rw [List.length_take]; omega
    obtain ⟨m, hm⟩ : ∃ m, m = ((E.drop x).take y).length := ⟨_, rfl⟩
    have hm8 : m ≤ 8 := by have := Nat.min_le_left y (E.drop x).length; rw [hm, List.length_take]; omega
    rw [hlp, ← hm]
    have HE5 := Lib.hid (HE4.out.trans hE)
    have HA5 := Lib.hid (HA4.out.ext hE)
    have HP := Lib.hid (And.intro hp2 hp3)
    have HQ := Lib.hid (And.intro hq2 hq3)
    have HM2 := Lib.hid hm
    have HLP := Lib.hid hlp
    have HB0 := Lib.hid (show Ext w5 (w5.alloc (.cells #[] 45)) from (ExtR w5).alloc _)
    have HW0 := Lib.hid (show (w5.alloc (.cells #[] 45)).ownsRow 0 45 2 (.slice (some ⟨w5.heap.size, 0, none⟩) 0 0) 0 [] from ⟨rfl, .inr ⟨_, 0, _, rfl, Nat.zero_le _, Blk.new w5 _, Nat.le_refl _, Nat.zero_le _, rfl, rfl⟩⟩)
    clear hpg hE hR hR5 hpn hqn hp1 hp2 hp3 hq1 hq2 hq3 hlp hm HE4 HA4 HR4 HS4
    have hm1 : 0 + x ≤ maxLen := by unfold maxLen; omega
    have hm2 : (0 + x) * 32 ≤ 140737488355328 := by omega
    have hm3 : 0 + x + m ≤ maxLen := by unfold maxLen; omega
    have hm4 : (0 + x + m) * 32 ≤ 140737488355328 := by omega
    have hlc1 : (cellsP (E.take x)).length = x * 2 := by rw [cellsP_len, HLP.out]
    have hlc2 : (cellsP ((E.drop x).take y)).length = m * 2 := by rw [cellsP_len, HM2.out]
    have HLC := Lib.hid (And.intro hlc1 hlc2)
    clear hlc1 hlc2
    go_wp2_with (first | (at_builtin; (refine wpList_app_w Tryz.sEnts (ORow.any HW0.out) (.tmp 105) (.tmp 106) rfl rfl rfl (fun j u hj => cell_ext (HP.out.2 j u hj) HB0.out) (cellsP_one _) HLC.out.1 rfl hm1 hm2 ?_; intro v6 w6 r1 r2 r3; have HQ6 := Lib.hid (show ∀ j u, (cellsP ((E.drop x).take y))[j]? = some u → w6.cell? ((⟨gq, 0, none⟩ : Addr).add j) = some u from cells_keep (fun j u hj => cell_ext (HQ.out.2 j u hj) HB0.out) r2 (fun e => by have e : some w5.heap.size = some gq := e; have := Option.some.inj e; have := HQ.out.1; omega)); have HX6 := Lib.hid (show Ext w5 w6 from HB0.out.trans' r2 (fun b hb e => by have e : some w5.heap.size = some b := e; have := Option.some.inj e; omega)); have HR6 := Lib.hid r1; have HN6 := Lib.hid r3; clear r1 r2 r3)) | (at_builtin; (refine wpList_app_w Tryz.sEnts HR6.out (.tmp 107) (.tmp 108) rfl rfl rfl HQ6.out (cellsP_one _) HLC.out.2 rfl hm3 hm4 ?_; intro v7 w7 r4 r5 r6)))
    have hX7 : Ext w5 w7 := HX6.out.trans' r5 (fun b hb e => by
      rcases HN6.out with h | h
      · have e2 : some w5.heap.size = some b := by rw [← e, h]; rfl
        have := Option.some.inj e2; omega
      · have := h b e; have h9 := HB0.out.size; omega)
    have hrow : RdP w7 v7 (E.take z) := by
      have h1 : ([] ++ cellsP (E.take x) ++ cellsP ((E.drop x).take y)) = cellsP (E.take z) := by
        rw [List.nil_append, ← cellsP_append, HZ.out, List.take_add]
      rw [h1] at r4
      exact ERow.rd r4
    have hA7 := HA5.out.rd.ext hX7
    have hzl : (E.take z).length ≤ 1000000 := by rw [List.length_take]; omega
    have HE7 := Lib.hid (HE5.out.trans hX7)
    clear r4 r5 r6 hX7
    refine (same_c w7 v7 av _ _ hrow hA7 hzl hzl).mono ?_
    rintro e w8 ⟨rfl, hE⟩
    rw [(sameL_iff _ _).2 rfl]
    have HE8 := Lib.hid (HE7.out.trans hE)
    clear hE
    go_wp2_with fail
    go_ret
    exact ⟨rfl, HE8.out⟩
end
end Go.Proofs.YtneojlgbcaejmaaGreatDoor
/- reference 05: Find. -/
namespace Go.Proofs.YtneojlgbcaejmaaGreatDoor
section
open Go Go.RowKit
set_option linter.unusedSimpArgs false
set_option linter.unusedVariables false
def RfRel5 (w : World) (l : List Pair) (k : ByteArray) (iv : Value) (wr : World) : Prop := ∃ i : Nat, i ≤ l.length ∧ iv = .int .i64 i ∧ Ext w wr ∧ look (l.take i) k.data.toList = none
theorem look_app (k : List UInt8) : ∀ a b : List Pair, look (a ++ b) k = (look a k).or (look b k)
  | [], b => by rw [look_nil]; simp
  | q :: a, b => by
    rw [List.cons_append, look_cons, look_cons, look_app k a b]
    split <;> rfl
set_option maxRecDepth 100000 in
set_option maxHeartbeats 4000000 in
theorem rfind_c (w : World) (v : Value) (l : List Pair) (k : ByteArray) (hv : RdP w v l) (hn : l.length ≤ 1000000) : Calls Tryz.prog 23 #[v, .string k] w fun e w' => e = .returned (optV (look l k.data.toList)) ∧ Ext w w' := by
  have HV := Lib.hid hv
  obtain ⟨a, c, hsl⟩ := hv.sl
  subst hsl
  clear hv
  obtain ⟨R, hR⟩ : ∃ R, R = optV (look l k.data.toList) := ⟨_, rfl⟩
  rw [← hR]
  have HR := Lib.hid hR
  clear hR
  go_enter Tryz.func23, Tryz.ntmps23
  go_wp2_with fail
  go_loopw [6] (fun iv wr => RfRel5 w l k iv wr) (fun iv _ => l.length - (intOf iv).toNat)
  case atStart => exact ⟨0, by omega, rfl, ExtR w, rfl⟩
  case round =>
    obtain ⟨i, hi, rfl, hE, hno⟩ := hrel
    have HE := Lib.hid hE
    have HNO := Lib.hid hno
    clear hE hno
    by_cases hlt : i < l.length
    · have b1 : (i : Int) < (l.length : Int) := by omega
      rcases HV.out with ⟨_, _, _, h0⟩ | ⟨b, o, c1, hh, hb, hcc, hcell⟩
      · rw [h0] at hlt; cases hlt
      cases hh
      obtain ⟨p, hp⟩ : ∃ p, l[i]? = some p := ⟨_, List.getElem?_eq_getElem hlt⟩
      obtain ⟨q1, q2⟩ := hcell i p hp
      have q1 := cell_ext q1 HE.out
      have q2 := cell_ext q2 HE.out
      have HP := Lib.hid hp
      obtain ⟨x, y⟩ := p
      simp only at q1 q2
      have hkb := key_beq x k
      clear hcell hb hcc hp
      have hspl : l = l.take i ++ (x, y) :: l.drop (i + 1) := by
        obtain ⟨h1, e1⟩ := List.getElem?_eq_some_iff.1 HP.out
        rw [← e1, ← List.drop_eq_getElem_cons h1, List.take_append_drop]
      have HSPL := Lib.hid hspl
      clear hspl
      by_cases hxk : k.data.toList = x.data.toList
      · rw [decide_eq_true hxk] at hkb
        have HF := Lib.hid (show R = optV (some y) by
          rw [HR.out, HSPL.out, look_app, HNO.out, look_cons, if_pos hxk]; rfl)
        clear hxk
        go_wp2_with fail
        go_ret2
        exact ⟨by rw [HF.out]; rfl, HE.out⟩
      · rw [decide_eq_false hxk] at hkb
        have HG := Lib.hid (show look (l.take (i + 1)) k.data.toList = none by
          rw [List.take_add_one, HP.out, look_app, HNO.out]
          show (none : Option ByteArray).or (look [(x, y)] k.data.toList) = none
          rw [look_cons, if_neg hxk]; rfl)
        clear hxk
        go_wp2_with fail
        go_roundw
        case rel => exact ⟨i + 1, by omega, by go_num, HE.out, HG.out⟩
        case measure => simp [intOf]; omega
    · have b1 : ¬ (i : Int) < (l.length : Int) := by omega
      have HF := Lib.hid (show R = optV none by rw [HR.out]; have h := HNO.out; rw [List.take_of_length_le (by omega)] at h; rw [h])
      go_wp2_with fail
      go_ret2
      exact ⟨by rw [HF.out]; rfl, HE.out⟩
end
end Go.Proofs.YtneojlgbcaejmaaGreatDoor
/- law 09: CursorRanges, its walk. -/
namespace Go.Proofs.YtneojlgbcaejmaaGreatDoor
section
open Go Go.RowKit
set_option linter.unusedSimpArgs false
set_option linter.unusedVariables false
attribute [local go_sem] Oper.semAt_some
def highK : ByteArray := ⟨#[255, 255, 255, 255, 255, 255, 255]⟩
theorem not_lt_high : ∀ (a b : List UInt8), (∀ x ∈ a, x = 255) → b.length ≤ a.length → ¬ Lt a b
  | [], [], _, _ => lt_irrefl _
  | [], y :: b, _, h => by simp at h
  | x :: a, [], _, _ => not_lt_nil _
  | x :: a, y :: b, hx, h => by
    intro hl
    rcases lt_cons.1 hl with h1 | h1
    · have e := hx x List.mem_cons_self
      subst e
      have := UInt8.lt_iff_toNat_lt.1 h1
      have := y.toNat_lt
      have : (255 : UInt8).toNat = 255 := rfl
      omega
    · exact not_lt_high a b (fun z hz => hx z (List.mem_cons_of_mem _ hz)) (by simpa using h) h1.2
theorem upto_last {l : List Pair} (h : checkN l = 0) (fr : ByteArray) : uptoL highK (fromL fr l) = fromL fr l := by
  unfold uptoL
  rw [List.filter_eq_self]
  intro p hp
  have hs := (check_ok h).size p (List.mem_filter.1 hp).1
  cases hb : lessB highK p.1 with
  | false => rfl
  | true =>
    refine absurd ((lessB_iff _ _).1 hb) (not_lt_high _ _ (fun x hx => ?_) ?_)
    · have : ∀ x ∈ highK.data.toList, x = 255 := by decide
      exact this x hx
    · show p.1.size ≤ 7; omega
theorem ba_of_list {a b : ByteArray} (h : a.data.toList = b.data.toList) : a = b := ba_ext h
theorem upto_self {l : List Pair} (hr : l.Pairwise fun p q => Lt p.l q.l) (fr : ByteArray) : uptoL fr (fromL fr l) = match look l fr.data.toList with | some v => [(fr, v)] | none => [] := by
  have h1 : uptoL fr (fromL fr l) = l.filter fun p => decide (fr.data.toList = p.k) := by
    unfold uptoL fromL
    rw [List.filter_filter]
    refine List.filter_congr fun p _ => ?_
    by_cases he : fr.data.toList = p.k
    · have e : p.1 = fr := ba_ext he.symm
      have hii : lessB fr fr = false := by rw [Bool.eq_false_iff]; exact fun h => lt_irrefl _ ((lessB_iff _ _).1 h)
      rw [e, hii]; simp [he]
    · rcases lt_total fr.data.toList p.1.data.toList with h | h | h
      · rw [(lessB_iff _ _).2 h]; simp [he]
      · exact absurd h he
      · rw [(lessB_iff _ _).2 h]; simp [he]
  rw [h1]
  induction l with
  | nil => rfl
  | cons q l ih =>
    rw [List.pairwise_cons] at hr
    rw [List.filter_cons, look_cons]
    by_cases he : fr.data.toList = q.k
    · have hn : l.filter (fun p => decide (fr.data.toList = p.k)) = [] := by
        rw [List.filter_eq_nil_iff]
        intro p hp h
        have h2 : fr.data.toList = p.k := by simpa using h
        have := hr.1 p hp
        rw [show q.l = p.l from he.symm.trans h2] at this
        exact lt_irrefl _ this
      rw [if_pos (by simpa using he), if_pos he, hn]
      obtain ⟨a, b⟩ := q
      have : a = fr := ba_ext he.symm
      subst this; rfl
    · rw [if_neg (by simpa using he), if_neg he]
      exact ih hr.2 (by
        unfold uptoL fromL
        rw [List.filter_filter]
        refine List.filter_congr fun p _ => ?_
        by_cases he : fr.data.toList = p.k
        · have e : p.1 = fr := ba_ext he.symm
          have hii : lessB fr fr = false := by rw [Bool.eq_false_iff]; exact fun h => lt_irrefl _ ((lessB_iff _ _).1 h)
          rw [e, hii]; simp [he]
        · rcases lt_total fr.data.toList p.1.data.toList with h | h | h
          · rw [(lessB_iff _ _).2 h]; simp [he]
          · exact absurd h he
          · rw [(lessB_iff _ _).2 h]; simp [he])
def xsA (E : List Pair) (limit : Int) : List Pair := if 1 ≤ limit ∧ limit ≤ 8 then E.take limit.toNat else []
def nxA (E : List Pair) (limit : Int) : ByteArray := if 1 ≤ limit ∧ limit ≤ 8 then keyHd (E.drop limit.toNat) else ⟨#[]⟩
def erA (limit : Int) : Int := if 1 ≤ limit ∧ limit ≤ 8 then 0 else 1
def moA (E : List Pair) (limit : Int) : Bool := if 1 ≤ limit ∧ limit ≤ 8 then decide (limit.toNat < E.length) else false
def PgA (E : List Pair) (limit : Int) (W : World) (e : Ending) (w' : World) : Prop := ∃ pv, e = .returned (.tuple #[pv, .string (nxA E limit), .int .i64 (erA limit)]) ∧ Ext W w' ∧ RdP w' pv (xsA E limit)
def RgP (E : List Pair) (limit : Int) (W : World) (e : Ending) (w' : World) : Prop := ∃ pv, e = .returned (.tuple #[pv, .bool (moA E limit), .int .i64 (erA limit)]) ∧ Ext W w' ∧ RdP w' pv (xsA E limit)
theorem rdp_nil (w : World) : RdP w (.slice none 0 0) [] := .inl ⟨none, 0, rfl, rfl⟩
theorem PageP.any {E : List Pair} {limit : Int} {W w' : World} {e : Ending} (h : PageP E limit W e w') : PgA E limit W e w' := by
  obtain ⟨hE, hp⟩ := h
  unfold PgA nxA erA xsA
  by_cases hv : 1 ≤ limit ∧ limit ≤ 8
  · rw [if_pos hv] at hp
    simp only [if_pos hv]
    obtain ⟨lv, h1, h2⟩ := hp
    exact ⟨lv, h1, hE, h2.rd⟩
  · rw [if_neg hv] at hp
    simp only [if_neg hv]
    exact ⟨_, hp, hE, rdp_nil _⟩
theorem RangeP.any {E : List Pair} {to : ByteArray} {limit : Int} {W w' : World} {e : Ending} (h : RangeP E to limit W e w') : RgP (uptoL to E) limit W e w' := by
  obtain ⟨hE, hp⟩ := h
  unfold RgP moA erA xsA
  by_cases hv : 1 ≤ limit ∧ limit ≤ 8
  · rw [if_pos hv] at hp
    simp only [if_pos hv]
    obtain ⟨lv, h1, h2⟩ := hp
    exact ⟨lv, h1, hE, h2.rd⟩
  · rw [if_neg hv] at hp
    simp only [if_neg hv]
    exact ⟨_, hp, hE, rdp_nil _⟩
theorem xsA_len (E : List Pair) (limit : Int) : (xsA E limit).length ≤ 8 := by
  unfold xsA; split
  · rename_i h; rw [List.length_take]; omega
  · simp
theorem empty_iff (x : ByteArray) : x.toList.isEmpty = decide (x.size = 0) := by
  have h1 : x.toList.length = x.size := by rw [ByteArray.toList_eq]; rfl
  by_cases h : x.size = 0
  · rw [decide_eq_true h, List.isEmpty_iff]; exact List.eq_nil_of_length_eq_zero (by omega)
  · rw [decide_eq_false h, Bool.eq_false_iff]; intro e
    rw [List.isEmpty_iff] at e
    rw [e] at h1; exact h h1.symm
theorem nx_more {l : List Pair} (h : checkN l = 0) (fr : ByteArray) (limit : Int) : (nxA (fromL fr l) limit).toList.isEmpty = !(moA (fromL fr l) limit) := by
  rw [empty_iff]
  unfold nxA moA
  by_cases hv : 1 ≤ limit ∧ limit ≤ 8
  · simp only [if_pos hv]
    rw [keyHd_drop]
    cases hq : (fromL fr l)[limit.toNat]? with
    | none =>
      have := List.getElem?_eq_none_iff.1 hq
      rw [decide_eq_false (show ¬ limit.toNat < (fromL fr l).length by omega)]; rfl
    | some q =>
      have h1 := (List.getElem?_eq_some_iff.1 hq).1
      have h2 := key_ne h hq
      rw [decide_eq_true h1, decide_eq_false h2.1]; rfl
  · simp only [if_neg hv]; rfl
set_option maxRecDepth 100000 in
set_option maxHeartbeats 8000000 in
theorem ranges_c (w : World) (hc : Cubes w) (v : Value) (l : List Pair) (hv : RdP w v l) (hn : l.length ≤ 9223372036854775807) (hs : SmallP l) (fr : ByteArray) (hfr : fr.size ≤ 9223372036854775807) (limit : Int) :
    Calls Tryz.prog 7 #[v, .string fr, .int .i64 limit] w fun e w' => e = .returned (.bool true) ∧ Ext w w' := by
  have HC := Lib.hid hc
  have HV := Lib.hid hv
  have HS := Lib.hid hs
  have HN := Lib.hid hn
  obtain ⟨ad, c, hsl⟩ := hv.sl
  subst hsl
  clear hc hv hs hn
  go_enter Tryz.func7, Tryz.ntmps7
  go_wp2_with fail
  refine (works9_c w HC.out).mono ?_
  rintro e w1 ⟨rfl, hE⟩
  have HE1 := Lib.hid hE
  clear hE
  go_wp2_with fail
  refine (hold08_c w1 (HC.out.ext HE1.out) _ l (HV.out.ext HE1.out) HN.out HS.out).mono ?_
  rintro e w2 (⟨rfl, hE, hno⟩ | ⟨s, bm, S, rfl, hE, hS, hM, hk, _, _⟩)
  · have HE2 := Lib.hid (HE1.out.trans hE)
    clear hE hno
    go_wp2_with fail
    go_ret
    exact ⟨rfl, HE2.out⟩
  have HE2 := Lib.hid (HE1.out.trans hE)
  have HS2 := Lib.hid hS
  have HM := Lib.hid hM
  obtain ⟨rt, hrt⟩ : ∃ rt, rt = shaB (trieT l).text := ⟨_, rfl⟩
  have HRT := Lib.hid hrt
  rw [← hrt]
  clear hE hS hM hk hrt
  by_cases hf50 : fr.size ≤ 50
  case neg =>
    have b0 : (50 : Int) < (fr.size : Int) := by omega
    go_wp2_with fail
    go_ret
    exact ⟨rfl, HE2.out⟩
  have b0 : ¬ (50 : Int) < (fr.size : Int) := by omega
  have hx2 : Ext w2 (w2.alloc (.cells #[.int .u8 255, .int .u8 255, .int .u8 255, .int .u8 255, .int .u8 255, .int .u8 255, .int .u8 255] 5)) := (ExtR w2).alloc _
  have hcv : (convert 52 9 (.slice (some ⟨w2.heap.size, 0, none⟩) 7 7)).run Tryz.prog (w2.alloc (.cells #[.int .u8 255, .int .u8 255, .int .u8 255, .int .u8 255, .int .u8 255, .int .u8 255, .int .u8 255] 5)) = .ok (.string highK) (w2.alloc (.cells #[.int .u8 255, .int .u8 255, .int .u8 255, .int .u8 255, .int .u8 255, .int .u8 255, .int .u8 255] 5)) := by
    have hO : (w2.alloc (.cells #[.int .u8 255, .int .u8 255, .int .u8 255, .int .u8 255, .int .u8 255, .int .u8 255, .int .u8 255] 5)).ownsRow 0 5 1 (.slice (some ⟨w2.heap.size, 0, none⟩) 7 7) 7 (bytesV [255, 255, 255, 255, 255, 255, 255]) :=
      ⟨rfl, .inr ⟨_, 7, _, rfl, Nat.zero_le _, Blk.new w2 _, Nat.le_refl _, by unfold maxLen; omega, rfl, rfl⟩⟩
    exact run_string_row _ Tryz.uBytes Tryz.uU8 Tryz.uStr hO
  have HX2 := Lib.hid hx2
  clear hx2
  go_wp2_with fail
  obtain ⟨E, hEd⟩ : ∃ E, E = fromL fr l := ⟨_, rfl⟩
  have HED := Lib.hid hEd
  have hpg := page_c _ s bm 2000 S fr l limit (by omega) HM.out (HS2.out.ext HX2.out)
  rw [← HRT.out, ← hEd] at hpg
  refine hpg.mono ?_
  rintro e w3 hP
  obtain ⟨pv, rfl, hE, hR⟩ := hP.any
  have HE3 := Lib.hid ((HE2.out.trans HX2.out).trans hE)
  have HS3 := Lib.hid ((HS2.out.ext HX2.out).ext hE)
  have HP3 := Lib.hid hR
  obtain ⟨nx, hnx⟩ : ∃ nx, nx = nxA E limit := ⟨_, rfl⟩
  obtain ⟨er, her⟩ : ∃ er, er = erA limit := ⟨_, rfl⟩
  have HNX := Lib.hid hnx
  have HER := Lib.hid her
  rw [← hnx, ← her]
  clear hpg hE hR hEd hnx her HE2 HS2 HX2 hP hcv
  go_wp2_with fail
  have hrg := range_c w3 s bm 2000 S fr highK l limit (by omega) HM.out HS3.out
  rw [← HRT.out, ← HED.out] at hrg
  refine hrg.mono ?_
  rintro e w4 hP
  have hP := hP.any
  rw [HED.out, upto_last HM.out.ok fr, ← HED.out] at hP
  obtain ⟨qv, rfl, hE, hR⟩ := hP
  have HE4 := Lib.hid (HE3.out.trans hE)
  have HS4 := Lib.hid (HS3.out.ext hE)
  have HP4 := Lib.hid (HP3.out.ext hE)
  have HQ4 := Lib.hid hR
  obtain ⟨mo, hmo⟩ : ∃ mo, mo = moA E limit := ⟨_, rfl⟩
  have HMO := Lib.hid hmo
  rw [← hmo, ← HER.out]
  clear hrg hE hR hmo HE3 HS3 HP3
  go_wp2_with fail
  have hrg := range_c w4 s bm 2000 S fr fr l 1 (by omega) HM.out HS4.out
  rw [← HRT.out] at hrg
  refine hrg.mono ?_
  rintro e w5 ⟨hE, hP⟩
  rw [if_pos (by decide), upto_self (check_ok HM.out.ok).rise fr] at hP
  obtain ⟨ov, rfl, hR⟩ := hP
  have hmo2 : decide ((1 : Int).toNat < (match look l fr.data.toList with | some v => [(fr, v)] | none => ([] : List Pair)).length) = false := by cases look l fr.data.toList <;> rfl
  rw [hmo2]
  have HE5 := Lib.hid (HE4.out.trans hE)
  have HP5 := Lib.hid (HP4.out.ext hE)
  have HQ5 := Lib.hid (HQ4.out.ext hE)
  have HO5 := Lib.hid hR
  have HV5 := Lib.hid (HV.out.ext HE5.out)
  clear hrg hE hR hmo2 HE4 HP4 HQ4 HS4
  go_wp2_with fail
  refine (rfind_c w5 _ l fr HV5.out (by have := (check_ok HM.out.ok).len; omega)).mono ?_
  rintro e w6 ⟨rfl, hE⟩
  have HE6 := Lib.hid (HE5.out.trans hE)
  have HP6 := Lib.hid (HP5.out.ext hE)
  have HQ6 := Lib.hid (HQ5.out.ext hE)
  have hO6 := HO5.out.ext hE
  have hnm := nx_more HM.out.ok fr limit
  rw [← HED.out, ← HNX.out, ← HMO.out] at hnm
  clear hE HE5 HP5 HQ5 HO5 HV5
  cases hlk : look l fr.data.toList with
  | none =>
    rw [hlk] at hO6
    obtain ⟨oa, oc, h3⟩ := row_slice hO6.own
    have h3 : ov = .slice oa 0 oc := h3
    subst h3
    unfold optV
    clear hO6 hlk
    go_wp2_with fail
    refine (same_c w6 pv qv _ _ HP6.out HQ6.out (by have := xsA_len E limit; omega) (by have := xsA_len E limit; omega)).mono ?_
    rintro e w7 ⟨rfl, hE⟩
    rw [(sameL_iff _ _).2 rfl]
    have HE7 := Lib.hid (HE6.out.trans hE)
    clear hE
    cases mo with
    | true =>
      go_wp2_with fail
      go_ret
      exact ⟨rfl, HE7.out⟩
    | false =>
      go_wp2_with fail
      go_ret
      exact ⟨rfl, HE7.out⟩
  | some vx =>
    rw [hlk] at hO6
    obtain ⟨go, oc, h3, _, _, hcell⟩ := hO6.open (by show [(fr, vx)] ≠ []; simp)
    have h3 : ov = .slice (some ⟨go, 0, none⟩) 1 oc := h3
    have q1 := hcell 1 (.string vx) rfl
    rw [Addr.add_lit] at q1
    subst h3
    have Q1 := Lib.hid q1
    unfold optV
    clear hO6 hlk hcell q1
    go_wp2_with fail
    refine (same_c w6 pv qv _ _ HP6.out HQ6.out (by have := xsA_len E limit; omega) (by have := xsA_len E limit; omega)).mono ?_
    rintro e w7 ⟨rfl, hE⟩
    rw [(sameL_iff _ _).2 rfl]
    have q1 := cell_ext Q1.out hE
    rw [Nat.zero_add] at q1
    have HE7 := Lib.hid (HE6.out.trans hE)
    clear hE
    cases mo with
    | true =>
      go_wp2_with fail
      go_ret
      exact ⟨rfl, HE7.out⟩
    | false =>
      go_wp2_with fail
      go_ret
      exact ⟨rfl, HE7.out⟩
end
end Go.Proofs.YtneojlgbcaejmaaGreatDoor
/- reference 05: Ahead. -/
namespace Go.Proofs.YtneojlgbcaejmaaGreatDoor
section
open Go Go.RowKit
set_option linter.unusedSimpArgs false
set_option linter.unusedVariables false
theorem Tryz.enterAhead : ∀ args w, (callFunc 43 args).run Tryz.prog w = .ok (.enter 43 args) w := fun _ _ => by kernel_rfl
theorem less_drop : ∀ (i : Nat) (a b : List UInt8), a.take i = b.take i → i ≤ a.length → i ≤ b.length → Op.bytesLess a b = Op.bytesLess (a.drop i) (b.drop i)
  | 0, _, _, _, _, _ => rfl
  | i + 1, [], _, _, h, _ => by simp at h
  | i + 1, _ :: _, [], _, _, h => by simp at h
  | i + 1, x :: a, y :: b, h, h1, h2 => by
    simp only [List.take_succ_cons, List.cons.injEq] at h
    obtain ⟨rfl, h⟩ := h
    rw [Op.bytesLess, List.drop_succ_cons, List.drop_succ_cons, ← less_drop i a b h (by simpa using h1) (by simpa using h2)]
    simp
theorem less_at {i : Nat} {a b : List UInt8} {x y : UInt8} (h : a.take i = b.take i) (hx : a[i]? = some x) (hy : b[i]? = some y) (hne : x ≠ y) : Op.bytesLess a b = decide (x < y) := by
  obtain ⟨h1, e1⟩ := List.getElem?_eq_some_iff.1 hx
  obtain ⟨h2, e2⟩ := List.getElem?_eq_some_iff.1 hy
  rw [less_drop i a b h (by omega) (by omega), List.drop_eq_getElem_cons h1, List.drop_eq_getElem_cons h2, e1, e2, Op.bytesLess]
  by_cases hl : x < y
  · simp [hl]
  · simp [hl, hne]
theorem less_end {i : Nat} {a b : List UInt8} (h : a.take i = b.take i) (h1 : i ≤ a.length) (h2 : i ≤ b.length) (he : i = a.length ∨ i = b.length) : Op.bytesLess a b = decide (a.length < b.length) := by
  rw [less_drop i a b h h1 h2]
  rcases he with he | he
  · rw [he, List.drop_length]
    cases hb : b.drop a.length with
    | nil =>
      have := congrArg List.length hb
      rw [List.length_drop, List.length_nil] at this
      simp [Op.bytesLess]; omega
    | cons y r =>
      have := congrArg List.length hb
      rw [List.length_drop, List.length_cons] at this
      simp [Op.bytesLess]; omega
  · rw [he, List.drop_length]
    cases ha : a.drop b.length with
    | nil =>
      have := congrArg List.length ha
      rw [List.length_drop, List.length_nil] at this
      simp [Op.bytesLess]; omega
    | cons y r =>
      have := congrArg List.length ha
      rw [List.length_drop, List.length_cons] at this
      simp [Op.bytesLess]; omega
def AhRel (w : World) (a b : ByteArray) (iv : Value) (wr : World) : Prop := ∃ i : Nat, i ≤ a.size ∧ i ≤ b.size ∧ iv = .int .i64 i ∧ Ext w wr ∧ a.data.toList.take i = b.data.toList.take i
set_option maxRecDepth 100000 in
set_option maxHeartbeats 4000000 in
theorem ahead_c (w : World) (a b : ByteArray) (ha : a.size ≤ 9223372036854775807) (hb : b.size ≤ 9223372036854775807) : Calls Tryz.prog 43 #[.string a, .string b] w fun e w' => e = .returned (.bool (lessB a b)) ∧ Ext w w' := by
  obtain ⟨R, hR⟩ : ∃ R, R = lessB a b := ⟨_, rfl⟩
  have HR := Lib.hid (show R = Op.bytesLess a.data.toList b.data.toList by rw [hR]; unfold lessB; rw [ByteArray.toList_eq, ByteArray.toList_eq])
  rw [← hR]
  clear hR
  go_enter Tryz.func43, Tryz.ntmps43
  go_wp2_with fail
  go_loopw [5] (fun iv wr => AhRel w a b iv wr) (fun iv _ => a.size - (intOf iv).toNat)
  case atStart => exact ⟨0, by omega, by omega, rfl, ExtR w, rfl⟩
  case round =>
    obtain ⟨i, hi1, hi2, rfl, hE, htk⟩ := hrel
    have HE := Lib.hid hE
    have HTK := Lib.hid htk
    clear hE htk
    have hla : a.data.toList.length = a.size := rfl
    have hlb : b.data.toList.length = b.size := rfl
    by_cases h1 : i < a.size
    · have b1 : (i : Int) < (a.size : Int) := by omega
      by_cases h2 : i < b.size
      · have b2 : (i : Int) < (b.size : Int) := by omega
        obtain ⟨x, hx⟩ : ∃ x, x = a[i] := ⟨_, rfl⟩
        obtain ⟨y, hy⟩ : ∃ y, y = b[i] := ⟨_, rfl⟩
        have HX := Lib.hid (show a.data.toList[i]? = some x by rw [hx, List.getElem?_eq_getElem (by omega)]; rfl)
        have HY := Lib.hid (show b.data.toList[i]? = some y by rw [hy, List.getElem?_eq_getElem (by omega)]; rfl)
        have hgx : a[i].toNat = x.toNat := by rw [hx]
        have hgy : b[i].toNat = y.toNat := by rw [hy]
        clear hla hlb
        by_cases hxy : x = y
        · have hn : ((x.toNat : Int) != (y.toNat : Int)) = false := by rw [hxy]; simp
          have HT2 := Lib.hid (show a.data.toList.take (i + 1) = b.data.toList.take (i + 1) by rw [List.take_add_one, List.take_add_one, HX.out, HY.out, HTK.out, hxy])
          clear hxy
          go_wp2_with fail
          refine wp_region_mixK [0,1,2,3,4,5,6] Ext ExtR ExtT (by kernel_rfl) (by kernel_rfl) (by kernel_rfl) ?_
          iterate 7 (refine mixk_pure _ rfl (by kernel_rfl) rfl rfl (fun K hK => ?_); go_big_quiet_op; refine hK _ ?_; clear hK K)
          refine mixk_end (by kernel_rfl) (fun w3 he => ?_)
          have HE3 := Lib.hid (HE.out.trans ((drewE _).trans he))
          clear he
          go_wp2_with fail
          go_roundw
          case rel => exact ⟨i + 1, by omega, by omega, by go_num, HE3.out, HT2.out⟩
          case measure => simp [intOf]; omega
        · have hn : ((x.toNat : Int) != (y.toNat : Int)) = true := by
            simp only [bne_iff_ne, ne_eq]
            intro e; exact hxy (UInt8.toNat_inj.1 (by omega))
          have HL := Lib.hid (show R = decide (x < y) by rw [HR.out]; exact less_at HTK.out HX.out HY.out hxy)
          by_cases hl : x < y
          · have hl2 : (x.toNat : Int) < (y.toNat : Int) := by have := UInt8.lt_iff_toNat_lt.1 hl; omega
            have HF := Lib.hid (show R = true by rw [HL.out]; exact decide_eq_true hl)
            clear hl hxy
            go_wp2_with fail
            refine wp_region_mixK [0,1,2,3,4,5,6] Ext ExtR ExtT (by kernel_rfl) (by kernel_rfl) (by kernel_rfl) ?_
            iterate 7 (refine mixk_pure _ rfl (by kernel_rfl) rfl rfl (fun K hK => ?_); go_big_quiet_op; refine hK _ ?_; clear hK K)
            refine mixk_end (by kernel_rfl) (fun w3 he => ?_)
            go_wp2_with fail
            refine wp_region_mixK [0,1,2,3,4,5,6,7] Ext ExtR ExtT (by kernel_rfl) (by kernel_rfl) (by kernel_rfl) ?_
            iterate 8 (refine mixk_pure _ rfl (by kernel_rfl) rfl rfl (fun K hK => ?_); go_big_quiet_op; refine hK _ ?_; clear hK K)
            refine mixk_end (by kernel_rfl) (fun w4 he2 => ?_)
            have HE3 := Lib.hid ((HE.out.trans ((drewE _).trans he)).trans ((drewE _).trans he2))
            clear he he2
            go_wp2_with fail
            go_ret
            exact ⟨by rw [HF.out]; rfl, HE3.out⟩
          · have hl2 : ¬ (x.toNat : Int) < (y.toNat : Int) := by
              intro e; exact hl (UInt8.lt_iff_toNat_lt.2 (by omega))
            have HF := Lib.hid (show R = decide (x.toNat < y.toNat) by rw [HL.out, decide_eq_false hl, decide_eq_false (fun e => hl (UInt8.lt_iff_toNat_lt.2 e))])
            clear hl hxy
            go_wp2_with fail
            refine wp_region_mixK [0,1,2,3,4,5,6] Ext ExtR ExtT (by kernel_rfl) (by kernel_rfl) (by kernel_rfl) ?_
            iterate 7 (refine mixk_pure _ rfl (by kernel_rfl) rfl rfl (fun K hK => ?_); go_big_quiet_op; refine hK _ ?_; clear hK K)
            refine mixk_end (by kernel_rfl) (fun w3 he => ?_)
            go_wp2_with fail
            refine wp_region_mixK [0,1,2,3,4,5,6,7] Ext ExtR ExtT (by kernel_rfl) (by kernel_rfl) (by kernel_rfl) ?_
            iterate 8 (refine mixk_pure _ rfl (by kernel_rfl) rfl rfl (fun K hK => ?_); go_big_quiet_op; refine hK _ ?_; clear hK K)
            refine mixk_end (by kernel_rfl) (fun w4 he2 => ?_)
            have HE3 := Lib.hid ((HE.out.trans ((drewE _).trans he)).trans ((drewE _).trans he2))
            clear he he2
            go_wp2_with fail
            go_ret
            exact ⟨by rw [HF.out]; rfl, HE3.out⟩
      · have b2 : ¬ (i : Int) < (b.size : Int) := by omega
        have HL := Lib.hid (show R = decide (a.size < b.size) by rw [HR.out]; exact less_end HTK.out (by omega) (by omega) (.inr (by omega)))
        have b3 : ¬ (a.size : Int) < (b.size : Int) := by omega
        have HF := Lib.hid (show R = false by rw [HL.out]; exact decide_eq_false (by omega))
        go_wp2_with fail
        go_ret
        exact ⟨by rw [HF.out]; rfl, HE.out⟩
    · have b1 : ¬ (i : Int) < (a.size : Int) := by omega
      have HL := Lib.hid (show R = decide (a.size < b.size) by rw [HR.out]; exact less_end HTK.out (by omega) (by omega) (.inl (by omega)))
      by_cases hl : a.size < b.size
      · have b3 : (a.size : Int) < (b.size : Int) := by omega
        have HF := Lib.hid (show R = true by rw [HL.out]; exact decide_eq_true hl)
        clear hl
        go_wp2_with fail
        go_ret
        exact ⟨by rw [HF.out]; rfl, HE.out⟩
      · have b3 : ¬ (a.size : Int) < (b.size : Int) := by omega
        have HF := Lib.hid (show R = false by rw [HL.out]; exact decide_eq_false hl)
        clear hl
        go_wp2_with fail
        go_ret
        exact ⟨by rw [HF.out]; rfl, HE.out⟩
end
end Go.Proofs.YtneojlgbcaejmaaGreatDoor
