/- Parts of the proof, one behind the other: CanonY, CanonZ, CanonZa, CanonZb, CanonZc. Each is under no condition but those that it states. -/
import Derived.Test.YtolhikjjchfnjaaGreatDoorBa26
/- canon: Diff. -/
namespace Go.Proofs.YtolhikjjchfnjaaGreatDoor
section
open Go Go.RowKit
set_option linter.unusedSimpArgs false
set_option linter.unusedVariables false
def cellsC (xs : List Chg) : List Value := xs.flatMap fun c => [.string c.key, .string c.value, .bool c.gone]
theorem cellsC_append (xs : List Chg) (c : Chg) : cellsC (xs ++ [c]) = cellsC xs ++ [.string c.key, .string c.value, .bool c.gone] := by simp [cellsC]
theorem cellsC_len (xs : List Chg) : (cellsC xs).length = xs.length * 3 := by
  induction xs with
  | nil => rfl
  | cons x r ih => unfold cellsC at *; rw [List.flatMap_cons, List.length_append, ih]; simp; omega
theorem Tryz.infoChg : (Tryz.prog.info? 49).map (fun i => (i.zero, i.size, i.bytes)) = some (some (.agg #[.string ⟨#[]⟩, .string ⟨#[]⟩, .bool false]), 3, 40) := by kernel_rfl
theorem Tryz.uChgs : Tryz.prog.underlying 35 = some (.slice 49) := by kernel_rfl
theorem Tryz.sChgs : SInfo Tryz.prog 35 49 3 40 := SInfo.mk' Tryz.uChgs Tryz.infoChg rfl (by decide)
abbrev CRow (w0 w : World) (v : Value) (n : Nat) (xs : List Chg) : Prop := ORow 49 3 w0 w v n (cellsC xs)
/-- What makes m of l. -/
def diffL : List Pair → List Pair → List Chg
  | [], [] => []
  | p :: l, [] => ⟨p.1, ⟨#[]⟩, true⟩ :: diffL l []
  | [], q :: m => ⟨q.1, q.2, false⟩ :: diffL [] m
  | p :: l, q :: m =>
    if lessB p.1 q.1 = true then ⟨p.1, ⟨#[]⟩, true⟩ :: diffL l (q :: m)
    else if lessB q.1 p.1 = true then ⟨q.1, q.2, false⟩ :: diffL (p :: l) m
    else if (p.2.toList == q.2.toList) = true then diffL l m else ⟨q.1, q.2, false⟩ :: diffL l m
termination_by l m => l.length + m.length
def diffN (l m : List Pair) : List Chg := if checkN l = 0 ∧ checkN m = 0 then diffL l m else []
theorem ldrop_at {α : Type} {l : List α} {i : Nat} {x : α} (h : l[i]? = some x) : l.drop i = x :: l.drop (i + 1) := by
  obtain ⟨hlt, e⟩ := List.getElem?_eq_some_iff.1 h
  rw [← e]; exact List.drop_eq_getElem_cons hlt
structure DfR (w : World) (l m : List Pair) (c : Value) (i j : Nat) (wr : World) (n : Nat) (acc : List Chg) : Prop where
  hi : i ≤ l.length
  hj : j ≤ m.length
  hn : n ≤ i + j
  row : CRow w wr c n acc
  eq : acc ++ diffL (l.drop i) (m.drop j) = diffL l m
def DfRel (w : World) (l m : List Pair) (c vi vj : Value) (wr : World) : Prop := ∃ i j n acc, vi = .int .i64 (i : Nat) ∧ vj = .int .i64 (j : Nat) ∧ DfR w l m c i j wr n acc
/-- What is left at the end. -/
theorem df_end {l m : List Pair} {i j : Nat} (hi : i = l.length) (hj : j = m.length) : diffL (l.drop i) (m.drop j) = [] := by
  subst hi; subst hj; rw [List.drop_length, List.drop_length]; simp [diffL]
theorem df_gone1 {l m : List Pair} {i j : Nat} {p : Pair} (hp : l[i]? = some p) (hj : j = m.length) : diffL (l.drop i) (m.drop j) = ⟨p.1, ⟨#[]⟩, true⟩ :: diffL (l.drop (i + 1)) (m.drop j) := by
  subst hj; rw [List.drop_length, ldrop_at hp]; simp [diffL]
theorem df_put1 {l m : List Pair} {i j : Nat} {q : Pair} (hq : m[j]? = some q) (hi : i = l.length) : diffL (l.drop i) (m.drop j) = ⟨q.1, q.2, false⟩ :: diffL (l.drop i) (m.drop (j + 1)) := by
  subst hi; rw [List.drop_length, ldrop_at hq]; simp [diffL]
theorem df_gone2 {l m : List Pair} {i j : Nat} {p q : Pair} (hp : l[i]? = some p) (hq : m[j]? = some q) (h : lessB p.1 q.1 = true) : diffL (l.drop i) (m.drop j) = ⟨p.1, ⟨#[]⟩, true⟩ :: diffL (l.drop (i + 1)) (m.drop j) := by
  rw [ldrop_at hp, ldrop_at hq, diffL, if_pos h]
theorem df_put2 {l m : List Pair} {i j : Nat} {p q : Pair} (hp : l[i]? = some p) (hq : m[j]? = some q) (h : lessB p.1 q.1 = false) (h2 : lessB q.1 p.1 = true) : diffL (l.drop i) (m.drop j) = ⟨q.1, q.2, false⟩ :: diffL (l.drop i) (m.drop (j + 1)) := by
  rw [ldrop_at hp, ldrop_at hq, diffL, if_neg (by rw [h]; simp), if_pos h2]
theorem df_same {l m : List Pair} {i j : Nat} {p q : Pair} (hp : l[i]? = some p) (hq : m[j]? = some q) (h : lessB p.1 q.1 = false) (h2 : lessB q.1 p.1 = false) (h3 : (p.2.toList == q.2.toList) = true) : diffL (l.drop i) (m.drop j) = diffL (l.drop (i + 1)) (m.drop (j + 1)) := by
  rw [ldrop_at hp, ldrop_at hq, diffL, if_neg (by rw [h]; simp), if_neg (by rw [h2]; simp), if_pos h3]
theorem df_other {l m : List Pair} {i j : Nat} {p q : Pair} (hp : l[i]? = some p) (hq : m[j]? = some q) (h : lessB p.1 q.1 = false) (h2 : lessB q.1 p.1 = false) (h3 : (p.2.toList == q.2.toList) = false) : diffL (l.drop i) (m.drop j) = ⟨q.1, q.2, false⟩ :: diffL (l.drop (i + 1)) (m.drop (j + 1)) := by
  rw [ldrop_at hp, ldrop_at hq, diffL, if_neg (by rw [h]; simp), if_neg (by rw [h2]; simp), if_neg (by rw [h3]; simp)]
set_option maxRecDepth 100000 in
set_option maxHeartbeats 8000000 in
theorem diff_c (w : World) (v u : Value) (l m : List Pair) (hv : RdP w v l) (hu : RdP w u m) (hn1 : l.length ≤ 9223372036854775807) (hn2 : m.length ≤ 9223372036854775807) (hs1 : ∀ p ∈ l, p.1.size ≤ 9223372036854775807 ∧ p.2.size ≤ 9223372036854775807) (hs2 : ∀ p ∈ m, p.1.size ≤ 9223372036854775807 ∧ p.2.size ≤ 9223372036854775807) :
    Calls Tryz.prog 29 #[v, u] w fun e w' => ∃ u, e = .returned u ∧ CRow w w' u (diffN l m).length (diffN l m) := by
  have HC1 := Lib.hid (check_c w v l hv hn1 hs1)
  have HC2 := Lib.hid (fun w1 (h1 : Ext w w1) => check_c w1 u m (hu.ext h1) hn2 hs2)
  have HV := Lib.hid hv
  have HU := Lib.hid hu
  obtain ⟨a, c, hsl⟩ := hv.sl
  subst hsl
  obtain ⟨a', c', hsl'⟩ := hu.sl
  subst hsl'
  clear hv hu hs1 hs2
  by_cases hck : checkN l = 0
  case neg =>
    have HD := Lib.hid (show diffN l m = [] by unfold diffN; rw [if_neg (fun h => hck h.1)])
    rw [HD.out]
    obtain ⟨x, hx⟩ : ∃ x, x = checkN l := ⟨_, rfl⟩
    rw [← hx] at hck HC1
    have hne : (x == 0) = false := by simpa using hck
    have hne2 : (x != 0) = true := by simpa using hck
    clear hck hx HV HU HC2 HD
    go_enter Tryz.func29, Tryz.ntmps29
    go_wp2_with fail
    refine HC1.out.mono ?_
    rintro e w1 ⟨rfl, hE⟩
    have HE := Lib.hid hE
    clear hE HC1
    go_wp2_with fail
    go_ret
    exact ⟨_, rfl, ORow.nil _ _ HE.out⟩
  by_cases hck2 : checkN m = 0
  case neg =>
    have HD := Lib.hid (show diffN l m = [] by unfold diffN; rw [if_neg (fun h => hck2 h.2)])
    rw [HD.out]
    rw [hck] at HC1
    obtain ⟨x, hx⟩ : ∃ x, x = checkN m := ⟨_, rfl⟩
    rw [← hx] at hck2 HC2
    have hne : (x == 0) = false := by simpa using hck2
    have hne2 : (x != 0) = true := by simpa using hck2
    clear hck hck2 hx HV HU HD
    go_enter Tryz.func29, Tryz.ntmps29
    go_wp2_with fail
    refine HC1.out.mono ?_
    rintro e w1 ⟨rfl, hE⟩
    have HE := Lib.hid hE
    clear hE HC1
    go_wp2_with fail
    refine (HC2.out w1 HE.out).mono ?_
    rintro e w2 ⟨rfl, hE⟩
    have HE2 := Lib.hid (HE.out.trans hE)
    clear hE HC2 HE
    go_wp2_with fail
    go_ret
    exact ⟨_, rfl, ORow.nil _ _ HE2.out⟩
  have hl40 := (check_ok hck).len
  have hm40 := (check_ok hck2).len
  have HD := Lib.hid (show diffN l m = diffL l m by unfold diffN; rw [if_pos ⟨hck, hck2⟩])
  rw [HD.out]
  rw [hck] at HC1
  rw [hck2] at HC2
  clear hck hck2 HD hn1 hn2
  obtain ⟨R, hR⟩ : ∃ R, R = diffL l m := ⟨_, rfl⟩
  rw [← hR]
  have HRR := Lib.hid hR
  clear hR
  go_enter Tryz.func29, Tryz.ntmps29
  go_wp2_with fail
  refine HC1.out.mono ?_
  rintro e w1 ⟨rfl, hE⟩
  have HE := Lib.hid hE
  clear hE HC1
  go_wp2_with fail
  refine (HC2.out w1 HE.out).mono ?_
  rintro e w2 ⟨rfl, hE⟩
  have HE2 := Lib.hid (HE.out.trans hE)
  clear hE HC2 HE
  go_wp2_with fail
  go_loopw [5, 6, 7] (fun v i j wr => DfRel w l m v i j wr) (fun _ i j _ => (l.length - (intOf i).toNat) + (m.length - (intOf j).toNat))
  case atStart => exact ⟨0, 0, 0, [], rfl, rfl, by omega, by omega, by omega, ORow.nil _ _ HE2.out, by simp⟩
  case round =>
    obtain ⟨i, j, n, acc, rfl, rfl, hrr⟩ := hrel
    obtain ⟨hi, hj, hn, hrow, heq⟩ := hrr
    obtain ⟨a2, c2, rfl⟩ := hrow.sl
    have HR := Lib.hid hrow
    have HEQ := Lib.hid heq
    clear hrow heq HE2
    by_cases hjm : j < m.length
    · by_cases hil : i < l.length
      · obtain ⟨q, hq⟩ : ∃ q, m[j]? = some q := ⟨_, List.getElem?_eq_getElem hjm⟩
        rcases HU.out with ⟨_, _, _, h0⟩ | ⟨bm, om, cm, hh, hb, hc, hcell⟩
        · rw [h0] at hjm; cases hjm
        cases hh
        obtain ⟨qb1, qb2⟩ := hcell j q hq
        have QB1 := Lib.hid (cell_ext qb1 HR.out.ext)
        have QB2 := Lib.hid (cell_ext qb2 HR.out.ext)
        have NB := Lib.hid (show ¬ (Value.slice a2 n c2).ownBlock = some bm from fun e => by have := HR.out.new bm e; omega)
        have HQ := Lib.hid hq
        have b2 : (j : Int) < (m.length : Int) := by omega
        obtain ⟨y1, y2⟩ := q
        simp only at QB1 QB2
        clear hcell hb hc hq
        obtain ⟨p, hp⟩ : ∃ p, l[i]? = some p := ⟨_, List.getElem?_eq_getElem hil⟩
        rcases HV.out with ⟨_, _, _, h0⟩ | ⟨bl, ol, cl, hh, hb, hc, hcell⟩
        · rw [h0] at hil; cases hil
        cases hh
        obtain ⟨qa1, qa2⟩ := hcell i p hp
        have QA1 := Lib.hid (cell_ext qa1 HR.out.ext)
        have QA2 := Lib.hid (cell_ext qa2 HR.out.ext)
        have HP := Lib.hid hp
        have b1 : (i : Int) < (l.length : Int) := by omega
        obtain ⟨x1, x2⟩ := p
        simp only at QA1 QA2
        clear hcell hb hc hp
        have eA : ((j : Int) == (m.length : Int)) = false := by simp; omega
        have eN : ((i : Int) == (l.length : Int)) = false := by simp; omega
        cases hls : lessB x1 y1 with
        | true =>
          have HN := Lib.hid (show acc ++ [_] ++ diffL _ _ = diffL l m from by rw [List.append_assoc, List.singleton_append, ← df_gone2 HP.out HQ.out hls]; exact HEQ.out)
          unfold lessB at hls
          clear HEQ
          go_wp2_with fail
          refine wp_region_mixK [0,1,2,3,4,5,6,7,8,9,10,11,12,13,14,15,16,17,18,19,20,21,22,23] Ext ExtR ExtT (by kernel_rfl) (by kernel_rfl) (by kernel_rfl) ?_
          iterate 14 (refine mixk_pure _ rfl (by kernel_rfl) rfl rfl (fun K hK => ?_); go_big_quiet_op; refine hK _ ?_; clear hK K)
          refine mixk_load ⟨bl, ol + i * 2, none⟩ (.string x1) rfl (by kernel_rfl) rfl rfl (fun w3 h3 => run_load_plain Tryz.uStr rfl (cell_ext (by exact QA1.out) ((drewE _).trans h3))) ?_
          simp only [Act.put, List.setIfInBounds_toArray, List.set_cons_zero, List.set_cons_succ]
          iterate 4 (refine mixk_pure _ rfl (by kernel_rfl) rfl rfl (fun K hK => ?_); go_big_quiet_op; refine hK _ ?_; clear hK K)
          refine mixk_load ⟨bm, om + j * 2, none⟩ (.string y1) rfl (by kernel_rfl) rfl rfl (fun w3 h3 => run_load_plain Tryz.uStr rfl (cell_ext (by exact QB1.out) ((drewE _).trans h3))) ?_
          simp only [Act.put, List.setIfInBounds_toArray, List.set_cons_zero, List.set_cons_succ]
          iterate 4 (refine mixk_pure _ rfl (by kernel_rfl) rfl rfl (fun K hK => ?_); go_big_quiet_op; refine hK _ ?_; clear hK K)
          refine mixk_end (by kernel_rfl) (fun w5 he => ?_)
          have HRX := Lib.hid (HR.out.mono ((drewE _).trans he))
          have qx1 := cell_ext QA1.out ((drewE _).trans he)
          clear he HR QA1 QA2 QB1 QB2
          go_wp2_with (at_builtin; refine wpList_app Tryz.sChgs (HRX.out.mono ((ExtR _).alloc _)) (.tmp 79) (.tmp 86) rfl rfl rfl (news_blk (Blk.new _ _)) (news := [.string x1, .string ⟨#[]⟩, .bool true]) (by intro u hu; simp at hu; rcases hu with rfl | rfl | rfl <;> rfl) rfl rfl ?c1 ?c2 (fun v' w' r1 r2 r3 => ?_))
          case c1 => unfold maxLen; omega
          case c2 => omega
          have r1' : CRow w w' v' (n + 1) (acc ++ [⟨x1, ⟨#[]⟩, true⟩]) := by unfold CRow; rw [cellsC_append]; exact r1
          obtain ⟨a8, c8, rfl⟩ := r1'.sl
          have HR5 := Lib.hid r1'
          clear r1 r2 r3 r1'
          go_wp2_with fail
          go_roundw
          case rel => exact ⟨i + 1, j, n + 1, _, by go_num, rfl, by omega, hj, by omega, HR5.out, HN.out⟩
          case measure => simp [intOf]; omega
        | false =>
          have HLS := Lib.hid hls
          unfold lessB at hls
          go_wp2_with fail
          refine wp_region_mixK [0,1,2,3,4,5,6,7,8,9,10,11,12,13,14,15,16,17,18,19,20,21,22,23] Ext ExtR ExtT (by kernel_rfl) (by kernel_rfl) (by kernel_rfl) ?_
          iterate 14 (refine mixk_pure _ rfl (by kernel_rfl) rfl rfl (fun K hK => ?_); go_big_quiet_op; refine hK _ ?_; clear hK K)
          refine mixk_load ⟨bl, ol + i * 2, none⟩ (.string x1) rfl (by kernel_rfl) rfl rfl (fun w3 h3 => run_load_plain Tryz.uStr rfl (cell_ext (by exact QA1.out) ((drewE _).trans h3))) ?_
          simp only [Act.put, List.setIfInBounds_toArray, List.set_cons_zero, List.set_cons_succ]
          iterate 4 (refine mixk_pure _ rfl (by kernel_rfl) rfl rfl (fun K hK => ?_); go_big_quiet_op; refine hK _ ?_; clear hK K)
          refine mixk_load ⟨bm, om + j * 2, none⟩ (.string y1) rfl (by kernel_rfl) rfl rfl (fun w3 h3 => run_load_plain Tryz.uStr rfl (cell_ext (by exact QB1.out) ((drewE _).trans h3))) ?_
          simp only [Act.put, List.setIfInBounds_toArray, List.set_cons_zero, List.set_cons_succ]
          iterate 4 (refine mixk_pure _ rfl (by kernel_rfl) rfl rfl (fun K hK => ?_); go_big_quiet_op; refine hK _ ?_; clear hK K)
          refine mixk_end (by kernel_rfl) (fun w5 he => ?_)
          have HRY := Lib.hid (HR.out.mono ((drewE _).trans he))
          have QA1' := Lib.hid (cell_ext QA1.out ((drewE _).trans he))
          have QA2' := Lib.hid (cell_ext QA2.out ((drewE _).trans he))
          have QB1' := Lib.hid (cell_ext QB1.out ((drewE _).trans he))
          have QB2' := Lib.hid (cell_ext QB2.out ((drewE _).trans he))
          clear he HR QA1 QA2 QB1 QB2 hls
          cases hlt2 : lessB y1 x1 with
          | true =>
            have HN := Lib.hid (show acc ++ [_] ++ diffL _ _ = diffL l m from by rw [List.append_assoc, List.singleton_append, ← df_put2 HP.out HQ.out HLS.out hlt2]; exact HEQ.out)
            unfold lessB at hlt2
            clear HEQ
            go_wp2_with fail
            refine wp_region_mixK [0,1,2,3,4,5,6,7,8,9,10,11,12,13,14,15,16,17] Ext ExtR ExtT (by kernel_rfl) (by kernel_rfl) (by kernel_rfl) ?_
            iterate 9 (refine mixk_pure _ rfl (by kernel_rfl) rfl rfl (fun K hK => ?_); go_big_quiet_op; refine hK _ ?_; clear hK K)
            refine mixk_load ⟨bm, om + j * 2, none⟩ (.string y1) rfl (by kernel_rfl) rfl rfl (fun w3 h3 => run_load_plain Tryz.uStr rfl (cell_ext (by exact QB1'.out) ((drewE _).trans h3))) ?_
            simp only [Act.put, List.setIfInBounds_toArray, List.set_cons_zero, List.set_cons_succ]
            iterate 4 (refine mixk_pure _ rfl (by kernel_rfl) rfl rfl (fun K hK => ?_); go_big_quiet_op; refine hK _ ?_; clear hK K)
            refine mixk_load ⟨bl, ol + i * 2, none⟩ (.string x1) rfl (by kernel_rfl) rfl rfl (fun w3 h3 => run_load_plain Tryz.uStr rfl (cell_ext (by exact QA1'.out) ((drewE _).trans h3))) ?_
            simp only [Act.put, List.setIfInBounds_toArray, List.set_cons_zero, List.set_cons_succ]
            iterate 3 (refine mixk_pure _ rfl (by kernel_rfl) rfl rfl (fun K hK => ?_); go_big_quiet_op; refine hK _ ?_; clear hK K)
            refine mixk_end (by kernel_rfl) (fun w5 he => ?_)
            have HRX := Lib.hid (HRY.out.mono ((drewE _).trans he))
            have QD1 := Lib.hid (cell_ext QB1'.out ((drewE _).trans he))
            have QD2 := Lib.hid (cell_ext QB2'.out ((drewE _).trans he))
            clear he HRY QA1' QA2' QB1' QB2' hlt2
            go_wp2_with fail
            refine wp_region_mixD [0,1,2,3,4,5,6,7,8,9,10,11,12,13,14] [12,13] Ext (Keeps (fun b => (Value.slice a2 n c2).ownBlock = some b)) ExtR ExtT (fun x y z h k => Keeps.trans h k) (fun x y h => h.mono (fun _ _ h => h.elim)) (by kernel_rfl) (by kernel_rfl) (by kernel_rfl) ?_
            iterate 5 (refine mixd_pure _ rfl (by kernel_rfl) rfl rfl (fun K hK => ?_); go_big_quiet_op; refine hK _ ?_; clear hK K)
            refine mixd_load ⟨bm, om + j * 2, none⟩ (.string y1) rfl (by kernel_rfl) rfl rfl (fun w3 h3 => run_load_plain Tryz.uStr rfl (cell_keeps (by exact QD1.out) h3 NB.out)) ?_
            simp only [Act.put, List.setIfInBounds_toArray, List.set_cons_zero, List.set_cons_succ]
            iterate 4 (refine mixd_pure _ rfl (by kernel_rfl) rfl rfl (fun K hK => ?_); go_big_quiet_op; refine hK _ ?_; clear hK K)
            refine mixd_load ⟨bm, om + j * 2 + 1, none⟩ (.string y2) rfl (by kernel_rfl) rfl rfl (fun w3 h3 => run_load_plain Tryz.uStr rfl (cell_keeps (by exact QD2.out) h3 NB.out)) ?_
            simp only [Act.put, List.setIfInBounds_toArray, List.set_cons_zero, List.set_cons_succ]
            iterate 1 (refine mixd_pure _ rfl (by kernel_rfl) rfl rfl (fun K hK => ?_); go_big_quiet_op; refine hK _ ?_; clear hK K)
            refine mixd_hard _ rfl (by kernel_rfl) rfl (fun w6 he K hK => ?_)
            have HR6 := Lib.hid (HRX.out.mono ((drewE _).trans he))
            clear he
            go_simp
            refine hK _ _ ((Keeps.refl _ w6).alloc _) ?_
            clear hK K
            refine mixd_hard _ rfl (by kernel_rfl) rfl (fun w7 he K hK => ?_)
            have HR7 := Lib.hid (HR6.out.mono (((ExtR w6).alloc _).trans he))
            have hB : ∀ k u, ([.string y1, .string y2, .bool false] : List Value)[k]? = some u → w7.cell? ((⟨w6.heap.size, 0, none⟩ : Addr).add k) = some u := fun k u hk => cell_ext (news_blk (Blk.new w6 (.cells [Value.string y1, .string y2, .bool false].toArray 49)) k u hk) he
            refine wp_app Tryz.sChgs HR7.out (.tmp 108) (.tmp 120) rfl rfl hB (by intro u hu; simp at hu; rcases hu with rfl | rfl | rfl <;> rfl) rfl rfl (by unfold maxLen; omega) (by omega) (fun v' w8 r1 r2 r3 => hK _ _ r2 ?_)
            have r1' : CRow w w8 v' (n + 1) (acc ++ [⟨y1, y2, false⟩]) := by unfold CRow; rw [cellsC_append]; exact r1
            have HR8 := Lib.hid r1'
            clear hK K he r1 r2 r3 r1' hB HR6 HR7
            obtain ⟨a4, c4, rfl⟩ := HR8.out.sl
            simp only [Act.put, List.setIfInBounds_toArray, List.set_cons_zero, List.set_cons_succ]
            iterate 1 (refine mixd_pure _ rfl (by kernel_rfl) rfl rfl (fun K hK => ?_); go_big_quiet_op; refine hK _ ?_; clear hK K)
            refine mixd_end (by kernel_rfl) (fun w9 he => ?_)
            have HR9 := Lib.hid (HR8.out.mono he)
            clear he HR8
            go_wp2_with fail
            go_roundw
            case rel => exact ⟨i, j + 1, n + 1, _, rfl, by go_num, by omega, by omega, by omega, HR9.out, HN.out⟩
            case measure => simp [intOf]; omega
          | false =>
            have HLT := Lib.hid hlt2
            unfold lessB at hlt2
            go_wp2_with fail
            refine wp_region_mixK [0,1,2,3,4,5,6,7,8,9,10,11,12,13,14,15,16,17] Ext ExtR ExtT (by kernel_rfl) (by kernel_rfl) (by kernel_rfl) ?_
            iterate 9 (refine mixk_pure _ rfl (by kernel_rfl) rfl rfl (fun K hK => ?_); go_big_quiet_op; refine hK _ ?_; clear hK K)
            refine mixk_load ⟨bm, om + j * 2, none⟩ (.string y1) rfl (by kernel_rfl) rfl rfl (fun w3 h3 => run_load_plain Tryz.uStr rfl (cell_ext (by exact QB1'.out) ((drewE _).trans h3))) ?_
            simp only [Act.put, List.setIfInBounds_toArray, List.set_cons_zero, List.set_cons_succ]
            iterate 4 (refine mixk_pure _ rfl (by kernel_rfl) rfl rfl (fun K hK => ?_); go_big_quiet_op; refine hK _ ?_; clear hK K)
            refine mixk_load ⟨bl, ol + i * 2, none⟩ (.string x1) rfl (by kernel_rfl) rfl rfl (fun w3 h3 => run_load_plain Tryz.uStr rfl (cell_ext (by exact QA1'.out) ((drewE _).trans h3))) ?_
            simp only [Act.put, List.setIfInBounds_toArray, List.set_cons_zero, List.set_cons_succ]
            iterate 3 (refine mixk_pure _ rfl (by kernel_rfl) rfl rfl (fun K hK => ?_); go_big_quiet_op; refine hK _ ?_; clear hK K)
            refine mixk_end (by kernel_rfl) (fun w5 he => ?_)
            have HRZ := Lib.hid (HRY.out.mono ((drewE _).trans he))
            have QE2 := Lib.hid (cell_ext QA2'.out ((drewE _).trans he))
            have QF1 := Lib.hid (cell_ext QB1'.out ((drewE _).trans he))
            have QF2 := Lib.hid (cell_ext QB2'.out ((drewE _).trans he))
            clear he HRY QA1' QA2' QB1' QB2' hlt2
            cases hvv : (x2.toList == y2.toList) with
            | true =>
              have HN := Lib.hid (show acc ++ diffL _ _ = diffL l m from by rw [← df_same HP.out HQ.out HLS.out HLT.out hvv]; exact HEQ.out)
              clear HEQ
              go_wp2_with fail
              refine wp_region_mixK [0,1,2,3,4,5,6,7,8,9,10] Ext ExtR ExtT (by kernel_rfl) (by kernel_rfl) (by kernel_rfl) ?_
              iterate 4 (refine mixk_pure _ rfl (by kernel_rfl) rfl rfl (fun K hK => ?_); go_big_quiet_op; refine hK _ ?_; clear hK K)
              refine mixk_load ⟨bl, ol + i * 2 + 1, none⟩ (.string x2) rfl (by kernel_rfl) rfl rfl (fun w3 h3 => run_load_plain Tryz.uStr rfl (cell_ext (by exact QE2.out) ((drewE _).trans h3))) ?_
              simp only [Act.put, List.setIfInBounds_toArray, List.set_cons_zero, List.set_cons_succ]
              iterate 4 (refine mixk_pure _ rfl (by kernel_rfl) rfl rfl (fun K hK => ?_); go_big_quiet_op; refine hK _ ?_; clear hK K)
              refine mixk_load ⟨bm, om + j * 2 + 1, none⟩ (.string y2) rfl (by kernel_rfl) rfl rfl (fun w3 h3 => run_load_plain Tryz.uStr rfl (cell_ext (by exact QF2.out) ((drewE _).trans h3))) ?_
              simp only [Act.put, List.setIfInBounds_toArray, List.set_cons_zero, List.set_cons_succ]
              iterate 1 (refine mixk_pure _ rfl (by kernel_rfl) rfl rfl (fun K hK => ?_); go_big_quiet_op; refine hK _ ?_; clear hK K)
              refine mixk_end (by kernel_rfl) (fun w5 he => ?_)
              have HRX := Lib.hid (HRZ.out.mono ((drewE _).trans he))
              clear he HRZ QE2 QF1 QF2
              go_wp2_with fail
              go_roundw
              case rel => exact ⟨i + 1, j + 1, n, acc, by go_num, by go_num, by omega, by omega, by omega, HRX.out, HN.out⟩
              case measure => simp [intOf]; omega
            | false =>
              have HN := Lib.hid (show acc ++ [_] ++ diffL _ _ = diffL l m from by rw [List.append_assoc, List.singleton_append, ← df_other HP.out HQ.out HLS.out HLT.out hvv]; exact HEQ.out)
              clear HEQ
              go_wp2_with fail
              refine wp_region_mixK [0,1,2,3,4,5,6,7,8,9,10] Ext ExtR ExtT (by kernel_rfl) (by kernel_rfl) (by kernel_rfl) ?_
              iterate 4 (refine mixk_pure _ rfl (by kernel_rfl) rfl rfl (fun K hK => ?_); go_big_quiet_op; refine hK _ ?_; clear hK K)
              refine mixk_load ⟨bl, ol + i * 2 + 1, none⟩ (.string x2) rfl (by kernel_rfl) rfl rfl (fun w3 h3 => run_load_plain Tryz.uStr rfl (cell_ext (by exact QE2.out) ((drewE _).trans h3))) ?_
              simp only [Act.put, List.setIfInBounds_toArray, List.set_cons_zero, List.set_cons_succ]
              iterate 4 (refine mixk_pure _ rfl (by kernel_rfl) rfl rfl (fun K hK => ?_); go_big_quiet_op; refine hK _ ?_; clear hK K)
              refine mixk_load ⟨bm, om + j * 2 + 1, none⟩ (.string y2) rfl (by kernel_rfl) rfl rfl (fun w3 h3 => run_load_plain Tryz.uStr rfl (cell_ext (by exact QF2.out) ((drewE _).trans h3))) ?_
              simp only [Act.put, List.setIfInBounds_toArray, List.set_cons_zero, List.set_cons_succ]
              iterate 1 (refine mixk_pure _ rfl (by kernel_rfl) rfl rfl (fun K hK => ?_); go_big_quiet_op; refine hK _ ?_; clear hK K)
              refine mixk_end (by kernel_rfl) (fun w5 he => ?_)
              have HRX := Lib.hid (HRZ.out.mono ((drewE _).trans he))
              have QD1 := Lib.hid (cell_ext QF1.out ((drewE _).trans he))
              have QD2 := Lib.hid (cell_ext QF2.out ((drewE _).trans he))
              clear he HRZ QE2 QF1 QF2
              go_wp2_with fail
              refine wp_region_mixD [0,1,2,3,4,5,6,7,8,9,10,11,12,13,14] [12,13] Ext (Keeps (fun b => (Value.slice a2 n c2).ownBlock = some b)) ExtR ExtT (fun x y z h k => Keeps.trans h k) (fun x y h => h.mono (fun _ _ h => h.elim)) (by kernel_rfl) (by kernel_rfl) (by kernel_rfl) ?_
              iterate 5 (refine mixd_pure _ rfl (by kernel_rfl) rfl rfl (fun K hK => ?_); go_big_quiet_op; refine hK _ ?_; clear hK K)
              refine mixd_load ⟨bm, om + j * 2, none⟩ (.string y1) rfl (by kernel_rfl) rfl rfl (fun w3 h3 => run_load_plain Tryz.uStr rfl (cell_keeps (by exact QD1.out) h3 NB.out)) ?_
              simp only [Act.put, List.setIfInBounds_toArray, List.set_cons_zero, List.set_cons_succ]
              iterate 4 (refine mixd_pure _ rfl (by kernel_rfl) rfl rfl (fun K hK => ?_); go_big_quiet_op; refine hK _ ?_; clear hK K)
              refine mixd_load ⟨bm, om + j * 2 + 1, none⟩ (.string y2) rfl (by kernel_rfl) rfl rfl (fun w3 h3 => run_load_plain Tryz.uStr rfl (cell_keeps (by exact QD2.out) h3 NB.out)) ?_
              simp only [Act.put, List.setIfInBounds_toArray, List.set_cons_zero, List.set_cons_succ]
              iterate 1 (refine mixd_pure _ rfl (by kernel_rfl) rfl rfl (fun K hK => ?_); go_big_quiet_op; refine hK _ ?_; clear hK K)
              refine mixd_hard _ rfl (by kernel_rfl) rfl (fun w6 he K hK => ?_)
              have HR6 := Lib.hid (HRX.out.mono ((drewE _).trans he))
              clear he
              go_simp
              refine hK _ _ ((Keeps.refl _ w6).alloc _) ?_
              clear hK K
              refine mixd_hard _ rfl (by kernel_rfl) rfl (fun w7 he K hK => ?_)
              have HR7 := Lib.hid (HR6.out.mono (((ExtR w6).alloc _).trans he))
              have hB : ∀ k u, ([.string y1, .string y2, .bool false] : List Value)[k]? = some u → w7.cell? ((⟨w6.heap.size, 0, none⟩ : Addr).add k) = some u := fun k u hk => cell_ext (news_blk (Blk.new w6 (.cells [Value.string y1, .string y2, .bool false].toArray 49)) k u hk) he
              refine wp_app Tryz.sChgs HR7.out (.tmp 37) (.tmp 49) rfl rfl hB (by intro u hu; simp at hu; rcases hu with rfl | rfl | rfl <;> rfl) rfl rfl (by unfold maxLen; omega) (by omega) (fun v' w8 r1 r2 r3 => hK _ _ r2 ?_)
              have r1' : CRow w w8 v' (n + 1) (acc ++ [⟨y1, y2, false⟩]) := by unfold CRow; rw [cellsC_append]; exact r1
              have HR8 := Lib.hid r1'
              clear hK K he r1 r2 r3 r1' hB HR6 HR7
              obtain ⟨a4, c4, rfl⟩ := HR8.out.sl
              simp only [Act.put, List.setIfInBounds_toArray, List.set_cons_zero, List.set_cons_succ]
              iterate 1 (refine mixd_pure _ rfl (by kernel_rfl) rfl rfl (fun K hK => ?_); go_big_quiet_op; refine hK _ ?_; clear hK K)
              refine mixd_end (by kernel_rfl) (fun w9 he => ?_)
              have HR9 := Lib.hid (HR8.out.mono he)
              clear he HR8
              go_wp2_with fail
              go_roundw
              case rel => exact ⟨i + 1, j + 1, n + 1, _, by go_num, by go_num, by omega, by omega, by omega, HR9.out, HN.out⟩
              case measure => simp [intOf]; omega
      · obtain ⟨q, hq⟩ : ∃ q, m[j]? = some q := ⟨_, List.getElem?_eq_getElem hjm⟩
        rcases HU.out with ⟨_, _, _, h0⟩ | ⟨bm, om, cm, hh, hb, hc, hcell⟩
        · rw [h0] at hjm; cases hjm
        cases hh
        obtain ⟨qb1, qb2⟩ := hcell j q hq
        have QB1 := Lib.hid (cell_ext qb1 HR.out.ext)
        have QB2 := Lib.hid (cell_ext qb2 HR.out.ext)
        have NB := Lib.hid (show ¬ (Value.slice a2 n c2).ownBlock = some bm from fun e => by have := HR.out.new bm e; omega)
        have HQ := Lib.hid hq
        have b2 : (j : Int) < (m.length : Int) := by omega
        obtain ⟨y1, y2⟩ := q
        simp only at QB1 QB2
        clear hcell hb hc hq
        have hie : i = l.length := by omega
        have b1 : ¬ (i : Int) < (l.length : Int) := by omega
        have eA : ((j : Int) == (m.length : Int)) = false := by simp; omega
        have eN : ((i : Int) == (l.length : Int)) = true := by simp; omega
        have HN := Lib.hid (show acc ++ [_] ++ diffL _ _ = diffL l m from by rw [List.append_assoc, List.singleton_append, ← df_put1 HQ.out hie]; exact HEQ.out)
        clear hie HEQ
        go_wp2_with fail
        refine wp_region_mixK [0,1,2,3,4,5,6,7,8,9,10,11,12,13,14,15,16,17,18,19,20,21,22,23] Ext ExtR ExtT (by kernel_rfl) (by kernel_rfl) (by kernel_rfl) ?_
        iterate 10 (refine mixk_pure _ rfl (by kernel_rfl) rfl rfl (fun K hK => ?_); go_big_quiet_op; refine hK _ ?_; clear hK K)
        iterate 11 (refine mixk_skip _ rfl (by kernel_rfl) rfl ?_; simp only [Act.put, List.setIfInBounds_toArray, List.set_cons_zero, List.set_cons_succ])
        iterate 3 (refine mixk_pure _ rfl (by kernel_rfl) rfl rfl (fun K hK => ?_); go_big_quiet_op; refine hK _ ?_; clear hK K)
        refine mixk_end (by kernel_rfl) (fun w5 he => ?_)
        have HRY := Lib.hid (HR.out.mono ((drewE _).trans he))
        have QC1 := Lib.hid (cell_ext QB1.out ((drewE _).trans he))
        have QC2 := Lib.hid (cell_ext QB2.out ((drewE _).trans he))
        clear he HR QB1 QB2
        go_wp2_with fail
        refine wp_region_mixK [0,1,2,3,4,5,6,7,8,9,10,11,12,13,14,15,16,17] Ext ExtR ExtT (by kernel_rfl) (by kernel_rfl) (by kernel_rfl) ?_
        iterate 5 (refine mixk_pure _ rfl (by kernel_rfl) rfl rfl (fun K hK => ?_); go_big_quiet_op; refine hK _ ?_; clear hK K)
        iterate 11 (refine mixk_skip _ rfl (by kernel_rfl) rfl ?_; simp only [Act.put, List.setIfInBounds_toArray, List.set_cons_zero, List.set_cons_succ])
        iterate 2 (refine mixk_pure _ rfl (by kernel_rfl) rfl rfl (fun K hK => ?_); go_big_quiet_op; refine hK _ ?_; clear hK K)
        refine mixk_end (by kernel_rfl) (fun w5 he => ?_)
        have HRX := Lib.hid (HRY.out.mono ((drewE _).trans he))
        have QD1 := Lib.hid (cell_ext QC1.out ((drewE _).trans he))
        have QD2 := Lib.hid (cell_ext QC2.out ((drewE _).trans he))
        clear he HRY QC1 QC2
        go_wp2_with fail
        refine wp_region_mixD [0,1,2,3,4,5,6,7,8,9,10,11,12,13,14] [12,13] Ext (Keeps (fun b => (Value.slice a2 n c2).ownBlock = some b)) ExtR ExtT (fun x y z h k => Keeps.trans h k) (fun x y h => h.mono (fun _ _ h => h.elim)) (by kernel_rfl) (by kernel_rfl) (by kernel_rfl) ?_
        iterate 5 (refine mixd_pure _ rfl (by kernel_rfl) rfl rfl (fun K hK => ?_); go_big_quiet_op; refine hK _ ?_; clear hK K)
        refine mixd_load ⟨bm, om + j * 2, none⟩ (.string y1) rfl (by kernel_rfl) rfl rfl (fun w3 h3 => run_load_plain Tryz.uStr rfl (cell_keeps (by exact QD1.out) h3 NB.out)) ?_
        simp only [Act.put, List.setIfInBounds_toArray, List.set_cons_zero, List.set_cons_succ]
        iterate 4 (refine mixd_pure _ rfl (by kernel_rfl) rfl rfl (fun K hK => ?_); go_big_quiet_op; refine hK _ ?_; clear hK K)
        refine mixd_load ⟨bm, om + j * 2 + 1, none⟩ (.string y2) rfl (by kernel_rfl) rfl rfl (fun w3 h3 => run_load_plain Tryz.uStr rfl (cell_keeps (by exact QD2.out) h3 NB.out)) ?_
        simp only [Act.put, List.setIfInBounds_toArray, List.set_cons_zero, List.set_cons_succ]
        iterate 1 (refine mixd_pure _ rfl (by kernel_rfl) rfl rfl (fun K hK => ?_); go_big_quiet_op; refine hK _ ?_; clear hK K)
        refine mixd_hard _ rfl (by kernel_rfl) rfl (fun w6 he K hK => ?_)
        have HR6 := Lib.hid (HRX.out.mono ((drewE _).trans he))
        clear he
        go_simp
        refine hK _ _ ((Keeps.refl _ w6).alloc _) ?_
        clear hK K
        refine mixd_hard _ rfl (by kernel_rfl) rfl (fun w7 he K hK => ?_)
        have HR7 := Lib.hid (HR6.out.mono (((ExtR w6).alloc _).trans he))
        have hB : ∀ k u, ([.string y1, .string y2, .bool false] : List Value)[k]? = some u → w7.cell? ((⟨w6.heap.size, 0, none⟩ : Addr).add k) = some u := fun k u hk => cell_ext (news_blk (Blk.new w6 (.cells [Value.string y1, .string y2, .bool false].toArray 49)) k u hk) he
        refine wp_app Tryz.sChgs HR7.out (.tmp 108) (.tmp 120) rfl rfl hB (by intro u hu; simp at hu; rcases hu with rfl | rfl | rfl <;> rfl) rfl rfl (by unfold maxLen; omega) (by omega) (fun v' w8 r1 r2 r3 => hK _ _ r2 ?_)
        have r1' : CRow w w8 v' (n + 1) (acc ++ [⟨y1, y2, false⟩]) := by unfold CRow; rw [cellsC_append]; exact r1
        have HR8 := Lib.hid r1'
        clear hK K he r1 r2 r3 r1' hB HR6 HR7
        obtain ⟨a4, c4, rfl⟩ := HR8.out.sl
        simp only [Act.put, List.setIfInBounds_toArray, List.set_cons_zero, List.set_cons_succ]
        iterate 1 (refine mixd_pure _ rfl (by kernel_rfl) rfl rfl (fun K hK => ?_); go_big_quiet_op; refine hK _ ?_; clear hK K)
        refine mixd_end (by kernel_rfl) (fun w9 he => ?_)
        have HR9 := Lib.hid (HR8.out.mono he)
        clear he HR8
        go_wp2_with fail
        go_roundw
        case rel => exact ⟨i, j + 1, n + 1, _, rfl, by go_num, by omega, by omega, by omega, HR9.out, HN.out⟩
        case measure => simp [intOf]; omega
    · have hje : j = m.length := by omega
      by_cases hil : i < l.length
      · obtain ⟨p, hp⟩ : ∃ p, l[i]? = some p := ⟨_, List.getElem?_eq_getElem hil⟩
        rcases HV.out with ⟨_, _, _, h0⟩ | ⟨bl, ol, cl, hh, hb, hc, hcell⟩
        · rw [h0] at hil; cases hil
        cases hh
        obtain ⟨qa1, qa2⟩ := hcell i p hp
        have QA1 := Lib.hid (cell_ext qa1 HR.out.ext)
        have QA2 := Lib.hid (cell_ext qa2 HR.out.ext)
        have HP := Lib.hid hp
        have b1 : (i : Int) < (l.length : Int) := by omega
        obtain ⟨x1, x2⟩ := p
        simp only at QA1 QA2
        clear hcell hb hc hp
        have b2 : ¬ (j : Int) < (m.length : Int) := by omega
        have eA : ((j : Int) == (m.length : Int)) = true := by simp; omega
        have HN := Lib.hid (show acc ++ [_] ++ diffL _ _ = diffL l m from by rw [List.append_assoc, List.singleton_append, ← df_gone1 HP.out hje]; exact HEQ.out)
        clear hje HEQ
        go_wp2_with fail
        refine wp_region_mixK [0,1,2,3,4,5,6,7,8,9,10,11,12,13,14,15,16,17,18,19,20,21,22,23] Ext ExtR ExtT (by kernel_rfl) (by kernel_rfl) (by kernel_rfl) ?_
        iterate 5 (refine mixk_pure _ rfl (by kernel_rfl) rfl rfl (fun K hK => ?_); go_big_quiet_op; refine hK _ ?_; clear hK K)
        iterate 17 (refine mixk_skip _ rfl (by kernel_rfl) rfl ?_; simp only [Act.put, List.setIfInBounds_toArray, List.set_cons_zero, List.set_cons_succ])
        iterate 2 (refine mixk_pure _ rfl (by kernel_rfl) rfl rfl (fun K hK => ?_); go_big_quiet_op; refine hK _ ?_; clear hK K)
        refine mixk_end (by kernel_rfl) (fun w5 he => ?_)
        have HRX := Lib.hid (HR.out.mono ((drewE _).trans he))
        have qx1 := cell_ext QA1.out ((drewE _).trans he)
        clear he HR QA1 QA2
        go_wp2_with (at_builtin; refine wpList_app Tryz.sChgs (HRX.out.mono ((ExtR _).alloc _)) (.tmp 79) (.tmp 86) rfl rfl rfl (news_blk (Blk.new _ _)) (news := [.string x1, .string ⟨#[]⟩, .bool true]) (by intro u hu; simp at hu; rcases hu with rfl | rfl | rfl <;> rfl) rfl rfl ?c1 ?c2 (fun v' w' r1 r2 r3 => ?_))
        case c1 => unfold maxLen; omega
        case c2 => omega
        have r1' : CRow w w' v' (n + 1) (acc ++ [⟨x1, ⟨#[]⟩, true⟩]) := by unfold CRow; rw [cellsC_append]; exact r1
        obtain ⟨a8, c8, rfl⟩ := r1'.sl
        have HR5 := Lib.hid r1'
        clear r1 r2 r3 r1'
        go_wp2_with fail
        go_roundw
        case rel => exact ⟨i + 1, j, n + 1, _, by go_num, rfl, by omega, hj, by omega, HR5.out, HN.out⟩
        case measure => simp [intOf]; omega
      · have hie : i = l.length := by omega
        have HF := Lib.hid (show acc = R by have h := HEQ.out; rw [df_end hie hje, List.append_nil, ← HRR.out] at h; exact h)
        have b1 : ¬ (i : Int) < (l.length : Int) := by omega
        have b2 : ¬ (j : Int) < (m.length : Int) := by omega
        have hnl : n = R.length := by
          have := HR.out.len
          rw [HF.out] at this
          rw [cellsC_len] at this
          omega
        have HNL := Lib.hid hnl
        clear hie hje hnl HEQ HRR
        go_wp2_with fail
        go_ret
        exact ⟨_, rfl, by rw [← HNL.out, ← HF.out]; exact HR.out⟩
end
end Go.Proofs.YtolhikjjchfnjaaGreatDoor
/- canon: the laws' fixed facts. -/
namespace Go.Proofs.YtolhikjjchfnjaaGreatDoor
section
open Go Go.RowKit
set_option linter.unusedSimpArgs false
set_option linter.unusedVariables false
def exL : List Pair := [(⟨#[97]⟩, ⟨#[120]⟩), (⟨#[98]⟩, ⟨#[121]⟩)]
def exM : List Pair := [(⟨#[98]⟩, ⟨#[121]⟩)]
def exC : List Chg := [⟨⟨#[97]⟩, ⟨#[]⟩, true⟩]
theorem ex_l : checkN exL = 0 := by decide +kernel
theorem ex_m : checkN exM = 0 := by decide +kernel
theorem ex_nil : checkN [] = 0 := by decide +kernel
theorem ex_bad : checkN [(⟨#[]⟩, ⟨#[]⟩)] = 1 := by decide +kernel
theorem ex_none : (trieT []).text = ⟨#[128]⟩ := by decide +kernel
theorem ex_nodes : firsts (flatT (trieT exL)) = [(trieT exL).text] := by decide +kernel
theorem ex_err : applyE exL exC = 0 := by decide +kernel
theorem ex_app : applyM exL exC = exM := by decide +kernel
theorem ex_sha : shaB (trieT exL).text ≠ shaB (trieT exM).text := by decide +kernel
theorem ex_find : findB exL ⟨#[98]⟩ = some ⟨#[121]⟩ := by decide +kernel
theorem ex_sort : sortM exM = exM := by
  unfold sortM exM
  simp [sortS, valM, Pair.k]
theorem ex_lt : lessB ⟨#[97]⟩ ⟨#[98]⟩ = true := by decide +kernel
theorem ex_nl : lessB ⟨#[98]⟩ ⟨#[98]⟩ = false := by decide +kernel
theorem ex_eq : ((⟨#[121]⟩ : ByteArray).toList == (⟨#[121]⟩ : ByteArray).toList) = true := by decide +kernel
theorem ex_diff : diffN exL exM = [⟨⟨#[97]⟩, ⟨#[]⟩, true⟩] := by
  unfold diffN
  rw [if_pos ⟨ex_l, ex_m⟩]
  unfold exL exM
  rw [diffL, if_pos ex_lt, diffL, if_neg (by rw [ex_nl]; simp), if_neg (by rw [ex_nl]; simp), if_pos ex_eq]
  simp [diffL]
theorem ex_clash : clashN exL exM = none := by
  unfold clashN; rw [if_pos (.inr (.inr (.inr ex_sha)))]
/-- The first node. -/
def exN : NodeT := nodeF (buildT 12) (rowsL exL)
theorem ex_kind : exN.kind = 2 := by decide +kernel
theorem ex_text : (trieT exL).text = nodeB exN := (good 12 (rowsL exL) (rows_ok (check_ok ex_l))).2.1 (by decide) |>.text
theorem ex_good : GoodW (InlD 12) exN := (good 12 (rowsL exL) (rows_ok (check_ok ex_l))).1
end
end Go.Proofs.YtolhikjjchfnjaaGreatDoor
/- canon: works, first half. -/
namespace Go.Proofs.YtolhikjjchfnjaaGreatDoor
section
open Go Go.RowKit
set_option linter.unusedSimpArgs false
set_option linter.unusedVariables false
theorem rdp_lit (w : World) (xs : List Pair) (T : TypeId) : RdP (w.alloc (.cells (cellsP xs).toArray T)) (.slice (some ⟨w.heap.size, 0, none⟩) xs.length xs.length) xs :=
  .inr ⟨w.heap.size, 0, xs.length, rfl, by simp, Nat.le_refl _, fun j x hx => by
    obtain ⟨e1, e2⟩ := cellsP_get xs j x hx
    exact ⟨by rw [Nat.zero_add]; exact (Blk.new w _).cellL e1, by rw [Nat.zero_add]; exact (Blk.new w _).cellL e2⟩⟩
theorem cellsC_get : ∀ (xs : List Chg) (j : Nat) (p : Chg), xs[j]? = some p → (cellsC xs)[j * 3]? = some (.string p.key) ∧ (cellsC xs)[j * 3 + 1]? = some (.string p.value) ∧ (cellsC xs)[j * 3 + 2]? = some (.bool p.gone)
  | [], j, p, h => by simp at h
  | x :: r, 0, p, h => by simp at h; subst h; exact ⟨rfl, rfl, rfl⟩
  | x :: r, j + 1, p, h => by
    obtain ⟨h1, h2, h3⟩ := cellsC_get r j p (by simpa using h)
    rw [show (j + 1) * 3 = j * 3 + 3 by omega]
    exact ⟨h1, h2, h3⟩
theorem rdc_lit (w : World) (xs : List Chg) (T : TypeId) : RdC (w.alloc (.cells (cellsC xs).toArray T)) (.slice (some ⟨w.heap.size, 0, none⟩) xs.length xs.length) xs :=
  .inr ⟨w.heap.size, 0, xs.length, rfl, by simp, Nat.le_refl _, fun j x hx => by
    obtain ⟨e1, e2, e3⟩ := cellsC_get xs j x hx
    exact ⟨by rw [Nat.zero_add]; exact (Blk.new w _).cellL e1, by rw [Nat.zero_add]; exact (Blk.new w _).cellL e2, by rw [Nat.zero_add]; exact (Blk.new w _).cellL e3⟩⟩
theorem ERow.rd {w0 w : World} {v : Value} {n : Nat} {xs : List Pair} (h : ERow w0 w v n xs) : RdP w v xs := by
  have hl : xs.length = n := by have := h.len; rw [cellsP_len] at this; omega
  obtain ⟨_, ⟨rfl, h2⟩ | ⟨g, cap, cur, rfl, h3, h4, h5, h6, h7⟩⟩ := h.own
  · exact .inl ⟨none, 0, rfl, List.eq_nil_of_length_eq_zero (by omega)⟩
  · subst hl
    refine .inr ⟨g, 0, cap, rfl, (Array.getElem?_eq_some_iff.1 h4).1, h5, fun j x hx => ?_⟩
    have hj := (List.getElem?_eq_some_iff.1 hx).1
    obtain ⟨e1, e2⟩ := cellsP_get xs j x hx
    exact ⟨by rw [Nat.zero_add, h.own.cellAt (j * 2) (by omega), e1], by rw [Nat.zero_add, h.own.cellAt (j * 2 + 1) (by omega), e2]⟩
theorem CRow.rd {w0 w : World} {v : Value} {n : Nat} {xs : List Chg} (h : CRow w0 w v n xs) : RdC w v xs := by
  have hl : xs.length = n := by have := h.len; rw [cellsC_len] at this; omega
  obtain ⟨_, ⟨rfl, h2⟩ | ⟨g, cap, cur, rfl, h3, h4, h5, h6, h7⟩⟩ := h.own
  · exact .inl ⟨none, 0, rfl, List.eq_nil_of_length_eq_zero (by omega)⟩
  · subst hl
    refine .inr ⟨g, 0, cap, rfl, (Array.getElem?_eq_some_iff.1 h4).1, h5, fun j x hx => ?_⟩
    have hj := (List.getElem?_eq_some_iff.1 hx).1
    obtain ⟨e1, e2, e3⟩ := cellsC_get xs j x hx
    exact ⟨by rw [Nat.zero_add, h.own.cellAt (j * 3) (by omega), e1], by rw [Nat.zero_add, h.own.cellAt (j * 3 + 1) (by omega), e2], by rw [Nat.zero_add, h.own.cellAt (j * 3 + 2) (by omega), e3]⟩
theorem exL_small : ∀ p ∈ exL, p.1.size ≤ 9223372036854775807 ∧ p.2.size ≤ 9223372036854775807 := by unfold exL; simp; decide
theorem exM_small : ∀ p ∈ exM, p.1.size ≤ 9223372036854775807 ∧ p.2.size ≤ 9223372036854775807 := by unfold exM; simp; decide
theorem exC_small : ∀ c ∈ exC, c.key.size ≤ 9223372036854775807 ∧ c.value.size ≤ 9223372036854775807 := by unfold exC; simp; decide
set_option maxRecDepth 100000 in
set_option maxHeartbeats 8000000 in
theorem works5_c (w : World) (hc : Cubes w) : Calls Tryz.prog 11 #[] w fun e w' => e = .returned (.bool true) ∧ Ext w w' := by
  have HC := Lib.hid hc
  clear hc
  obtain ⟨tp, htp⟩ : ∃ tp, tp = (trieT exL).text := ⟨_, rfl⟩
  have HTP := Lib.hid htp
  clear htp
  go_enter Tryz.func11, Tryz.ntmps11
  go_wp2_with fail
  obtain ⟨w1, hw1⟩ : ∃ w1, w1 = w.alloc (.cells #[.string ⟨#[97]⟩, .string ⟨#[120]⟩, .string ⟨#[98]⟩, .string ⟨#[121]⟩] 52) := ⟨_, rfl⟩
  rw [← hw1]
  obtain ⟨g, hg⟩ : ∃ g, g = w.heap.size := ⟨_, rfl⟩
  have HL := Lib.hid (show RdP w1 (.slice (some ⟨g, 0, none⟩) 2 2) exL by rw [hw1, hg]; exact rdp_lit w exL _)
  have HE1 := Lib.hid (show Ext w w1 by rw [hw1]; exact (ExtR w).alloc _)
  rw [← hg]
  clear hg hw1
  refine (root_ok w1 (.slice none 0 0) [] (HC.out.ext HE1.out) (.inl ⟨none, 0, rfl, rfl⟩) ex_nil).mono ?_
  rintro e w2 ⟨rfl, hE⟩
  rw [ex_none]
  have HE2 := Lib.hid (HE1.out.trans hE)
  have HL2 := Lib.hid (HL.out.ext hE)
  clear hE HL HE1
  go_wp2_with fail
  refine (top_ok w2 _ exL (HC.out.ext HE2.out) HL2.out ex_l).mono ?_
  rintro e w3 ⟨rfl, hE⟩
  rw [← HTP.out]
  have HE3 := Lib.hid (HE2.out.trans hE)
  have HL3 := Lib.hid (HL2.out.ext hE)
  clear hE HL2 HE2
  go_wp2_with fail
  refine (root_ok w3 _ exL (HC.out.ext HE3.out) HL3.out ex_l).mono ?_
  rintro e w4 ⟨rfl, hE⟩
  rw [← HTP.out]
  have HE4 := Lib.hid (HE3.out.trans hE)
  have HL4 := Lib.hid (HL3.out.ext hE)
  clear hE HL3 HE3
  go_wp2_with fail
  refine (nodes_ok w4 _ exL (HC.out.ext HE4.out) HL4.out ex_l).mono ?_
  rintro e w5 ⟨u5, n5, rfl, hR⟩
  rw [ex_nodes, ← HTP.out] at hR
  have hl5 : n5 = 1 := by have := hR.len; simp at this; omega
  subst hl5
  obtain ⟨a5, c5, rfl⟩ := hR.sl
  have HN5 := Lib.hid hR.rd
  have HE5 := Lib.hid (HE4.out.trans hR.ext)
  have HL5 := Lib.hid (HL4.out.ext hR.ext)
  clear hR HL4 HE4
  go_wp2_with fail
  refine (apply_c _ _ _ exL exC (HL5.out.ext ((ExtR w5).alloc _)) (rdc_lit w5 exC 49) (by decide) (by decide) exL_small exC_small).mono ?_
  rintro e w6 h6
  unfold ApplyP at h6
  rw [if_pos ex_err, ex_app, ex_sort] at h6
  obtain ⟨r6, rfl, hR⟩ := h6
  obtain ⟨a6, c6, rfl⟩ := hR.sl
  have HM6 := Lib.hid (ERow.rd hR)
  have hx6 := ((ExtR w5).alloc (.cells #[.string ⟨#[97]⟩, .string ⟨#[]⟩, .bool true] 49)).trans hR.ext
  have HE6 := Lib.hid (HE5.out.trans hx6)
  have HL6 := Lib.hid (HL5.out.ext hx6)
  have HN6 := Lib.hid (HN5.out.ext hx6)
  rw [show exM.length = 1 from rfl] at HM6 ⊢
  clear hR hx6 HL5 HE5 HN5
  go_wp2_with fail
  refine (find_c w6 _ exL ⟨#[98]⟩ HL6.out (by decide)).mono ?_
  rintro e w7 ⟨rfl, hE⟩
  rw [ex_find]
  have HE7 := Lib.hid (HE6.out.trans hE)
  have HL7 := Lib.hid (HL6.out.ext hE)
  have HN7 := Lib.hid (HN6.out.ext hE)
  have HM7 := Lib.hid (HM6.out.ext hE)
  clear hE HL6 HE6 HN6 HM6
  unfold optV
  go_wp2_with fail
  refine (diff_c w7 _ _ exL exM HL7.out HM7.out (by decide) (by decide) exL_small exM_small).mono ?_
  rintro e w8 ⟨r8, rfl, hR⟩
  rw [ex_diff] at hR
  obtain ⟨a8, c8, rfl⟩ := hR.sl
  have HD8 := Lib.hid (CRow.rd hR)
  have HE8 := Lib.hid (HE7.out.trans hR.ext)
  have HL8 := Lib.hid (HL7.out.ext hR.ext)
  have HN8 := Lib.hid (HN7.out.ext hR.ext)
  have HM8 := Lib.hid (HM7.out.ext hR.ext)
  clear hR HL7 HE7 HN7 HM7
  rw [show ([⟨⟨#[97]⟩, ⟨#[]⟩, true⟩] : List Chg).length = 1 from rfl] at HD8 ⊢
  go_wp2_with fail
  refine (clash_c w8 _ _ exL exM (HC.out.ext HE8.out) HL8.out HM8.out (by decide) (by decide) exL_small exM_small).mono ?_
  rintro e w9 ⟨rfl, hE⟩
  rw [ex_clash]
  have HE9 := Lib.hid (HE8.out.trans hE)
  have HL9 := Lib.hid (HL8.out.ext hE)
  have HN9 := Lib.hid (HN8.out.ext hE)
  have HD9 := Lib.hid (HD8.out.ext hE)
  clear hE HL8 HE8 HN8 HD8 HM8
  unfold clashV
  go_wp2_with fail
  rw [HTP.out, ex_text]
  refine (get_c4 (inlP 12) w9 exN ex_good).mono ?_
  rintro e w10 ⟨rfl, hE⟩
  rw [← ex_text, ← HTP.out]
  have HE10 := Lib.hid (HE9.out.trans hE)
  have HL10 := Lib.hid (HL9.out.ext hE)
  have HN10 := Lib.hid (HN9.out.ext hE)
  have HD10 := Lib.hid (HD9.out.ext hE)
  clear hE HL9 HE9 HN9 HD9
  have hcv : ∀ W : World, (convert 63 9 (.slice (some ⟨W.heap.size, 0, none⟩) 1 1)).run Tryz.prog (W.alloc (.cells #[.int .u8 128] 5)) = .ok (.string ⟨#[128]⟩) (W.alloc (.cells #[.int .u8 128] 5)) := fun W =>
    run_string_row (l := [128]) _ Tryz.uBytes Tryz.uU8 Tryz.uStr (World.ownsRow_lit W #[.int .u8 128] 1 (Nat.zero_le _) (by unfold maxLen; omega) rfl)
  go_wp2_with (refine wpList_new Tryz.allocNode rfl rfl ?_; intro W3 hB3 hE3; refine wpList_fill (vs := exN.cells) rfl rfl rfl rfl hB3 (by rw [exN.cells_len (by decide +kernel)]; rfl) (by rw [exN.cells_len (by decide +kernel)]; rfl) (NodeT.one _) ?_; intro W4 hB4 hE4)
  have hE34 : Ext w10 W4 := hE3.trans' hE4 (fun x hx e => by have e : x = w10.heap.size := e; omega)
  have HB4 := Lib.hid hB4
  have hx4 := (hE34.alloc (.cells #[.int .u8 128] 5)).alloc (.cells #[.string ⟨#[128]⟩] 9)
  have HRS := Lib.hid (show RdS ((W4.alloc (.cells #[.int .u8 128] 5)).alloc (.cells #[.string ⟨#[128]⟩] 9)) (.slice (some ⟨W4.heap.size + 1, 0, none⟩) 1 1) [⟨#[128]⟩] by
    have := rds_lit (W4.alloc (.cells #[.int .u8 128] 5)) [⟨#[128]⟩] 9
    rwa [World.size_alloc] at this)
  have HX4 := Lib.hid hx4
  clear hB3 hE3 hB4 hE4 hE34 hcv hx4
  refine (of_t _ _ [⟨#[128]⟩] (by simp) HRS.out (HC.out.ext (HE10.out.trans HX4.out))).mono ?_
  rintro e w11 ⟨rfl, hE⟩
  rw [catB_one]
  have HE11 := Lib.hid (HE10.out.trans (HX4.out.trans hE))
  have HL11 := Lib.hid (HL10.out.ext (HX4.out.trans hE))
  have HN11 := Lib.hid (HN10.out.ext (HX4.out.trans hE))
  have HD11 := Lib.hid (HD10.out.ext (HX4.out.trans hE))
  have HB11 := Lib.hid ((((HB4.out.alloc (.cells #[.int .u8 128] 5)).alloc (.cells #[.string ⟨#[128]⟩] 9))).keeps hE (fun h => h))
  clear hE HE10 HL10 HN10 HD10 HX4 HRS HB4
  go_wp2_with fail
  refine (of_t _ _ [tp] (by simp) (rds_lit w11 [tp] 9) (HC.out.ext (HE11.out.alloc _))).mono ?_
  rintro e w12 ⟨rfl, hE⟩
  rw [catB_one]
  have hx12 := ((ExtR w11).alloc (.cells #[.string tp] 9)).trans hE
  have HE12 := Lib.hid (HE11.out.trans hx12)
  have HL12 := Lib.hid (HL11.out.ext hx12)
  have hN := HN11.out.ext hx12
  have hD := HD11.out.ext hx12
  have hB := HB11.out.keeps hx12 (fun h => h)
  have qk : w12.cell? ⟨w10.heap.size, 0, none⟩ = some (.int .i64 2) := by
    have := hB.cell (i := 0) (v := .int .i64 (exN.kind : Int)) (by rfl)
    rw [ex_kind] at this; exact this
  obtain ⟨_, _, hh, hcell⟩ := hN.slice
  obtain ⟨b5, o5, hao, qn⟩ := hcell 0 tp rfl
  obtain ⟨e1, e2, e3⟩ := Value.slice.inj hh
  rw [hao] at e1
  subst e1
  clear e2 e3
  rcases hD with ⟨_, _, _, h0⟩ | ⟨b8, o8, c9, hh8, hb8, hc8, hcell8⟩
  · cases h0
  obtain ⟨_, _, qd⟩ := hcell8 0 _ rfl
  obtain ⟨e8, e9, e10⟩ := Value.slice.inj hh8
  subst e8
  clear e9 e10
  simp only at qd
  rw [Nat.add_zero] at qn
  rw [Nat.zero_mul, Nat.add_zero] at qd
  clear hh hcell hao hh8 hb8 hc8 hcell8 hN hB hE hx12 HE11 HL11 HN11 HD11 HB11
  go_wp2_with fail
  refine (check_c w12 _ exL HL12.out (by decide) exL_small).mono ?_
  rintro e w13 ⟨rfl, hE⟩
  rw [ex_l]
  have HE13 := Lib.hid (HE12.out.trans hE)
  clear hE HE12 HL12 qn qd qk
  go_wp2_with fail
  refine (check_c _ _ [(⟨#[]⟩, ⟨#[]⟩)] (rdp_lit w13 [(⟨#[]⟩, ⟨#[]⟩)] 52) (by decide) (by simp; decide)).mono ?_
  rintro e w14 ⟨rfl, hE⟩
  rw [ex_bad]
  have HE14 := Lib.hid ((HE13.out.alloc _).trans hE)
  clear hE HE13
  go_wp2_with fail
  go_ret
  exact ⟨rfl, HE14.out⟩
end
end Go.Proofs.YtolhikjjchfnjaaGreatDoor
/- canon: Few. -/
namespace Go.Proofs.YtolhikjjchfnjaaGreatDoor
section
open Go Go.RowKit
set_option linter.unusedSimpArgs false
set_option linter.unusedVariables false
def shortB (p : Pair) : Bool := decide (p.1.size ≤ 20) && decide (p.2.size ≤ 100)
def fewB (l : List Pair) : Bool := l.all shortB && decide (l.length ≤ 45)
def FwRel (w : World) (l : List Pair) (i : Value) (wr : World) : Prop := ∃ k : Nat, k ≤ l.length ∧ k ≤ 46 ∧ i = .int .i64 k ∧ Ext w wr ∧ (l.take k).all shortB = true
theorem all_step {l : List Pair} {k : Nat} {p : Pair} (h : l[k]? = some p) : (l.take (k + 1)).all shortB = ((l.take k).all shortB && shortB p) := by
  rw [List.take_add_one, h, List.all_append]; simp
theorem all_not {l : List Pair} {k : Nat} {p : Pair} (h : l[k]? = some p) (hb : shortB p = false) : fewB l = false := by
  unfold fewB
  have : l.all shortB = false := by
    rw [Bool.eq_false_iff]; intro h2
    have := List.all_eq_true.1 h2 p (List.mem_of_getElem? h)
    rw [hb] at this; cases this
  rw [this]; rfl
set_option maxRecDepth 100000 in
set_option maxHeartbeats 8000000 in
theorem few5_c (w : World) (v : Value) (l : List Pair) (hv : RdP w v l) (hn : l.length ≤ 9223372036854775807) (hs : ∀ p ∈ l, p.1.size ≤ 9223372036854775807 ∧ p.2.size ≤ 9223372036854775807) :
    Calls Tryz.prog 12 #[v] w fun e w' => e = .returned (.bool (fewB l)) ∧ Ext w w' := by
  have HV := Lib.hid hv
  have HS := Lib.hid hs
  obtain ⟨a, c, hsl⟩ := hv.sl
  subst hsl
  clear hv hs
  obtain ⟨R, hR⟩ : ∃ R, R = fewB l := ⟨_, rfl⟩
  rw [← hR]
  have HR := Lib.hid hR
  clear hR
  go_enter Tryz.func12, Tryz.ntmps12
  go_wp2_with fail
  go_loopw [3] (fun i wr => FwRel w l i wr) (fun i _ => l.length - (intOf i).toNat)
  case atStart => exact ⟨0, by omega, by omega, rfl, ExtR w, rfl⟩
  case round =>
    obtain ⟨k, hk, hk6, rfl, hE, hall⟩ := hrel
    have HE := Lib.hid hE
    have HALL := Lib.hid hall
    clear hE hall
    by_cases hlt : k < l.length
    · have b1 : (k : Int) < (l.length : Int) := by omega
      by_cases h45 : k ≤ 45
      · have b2 : (k : Int) ≤ 45 := by omega
        obtain ⟨p, hp⟩ : ∃ p, l[k]? = some p := ⟨_, List.getElem?_eq_getElem hlt⟩
        rcases HV.out with ⟨_, _, _, h0⟩ | ⟨b, o, c1, hh, hb, hc, hcell⟩
        · rw [h0] at hlt; cases hlt
        cases hh
        obtain ⟨q1, q2⟩ := hcell k p hp
        have q1 := cell_ext q1 HE.out
        have q2 := cell_ext q2 HE.out
        have hsp := HS.out p (List.mem_of_getElem? hp)
        have HP := Lib.hid hp
        obtain ⟨x, y⟩ := p
        simp only at q1 q2 hsp
        clear hcell hb hc hp
        by_cases hx : 20 < x.size
        · have b3 : (20 : Int) < (x.size : Int) := by omega
          have HF := Lib.hid (show R = false by rw [HR.out]; exact all_not HP.out (by unfold shortB; simp; omega))
          clear hx
          go_wp2_with fail
          go_ret
          exact ⟨by rw [HF.out]; rfl, HE.out⟩
        · have b3 : ¬ (20 : Int) < (x.size : Int) := by omega
          by_cases hy : 100 < y.size
          · have b4 : (100 : Int) < (y.size : Int) := by omega
            have HF := Lib.hid (show R = false by rw [HR.out]; exact all_not HP.out (by unfold shortB; simp; omega))
            clear hx hy
            go_wp2_with fail
            go_ret
            exact ⟨by rw [HF.out]; rfl, HE.out⟩
          · have b4 : ¬ (100 : Int) < (y.size : Int) := by omega
            have HG := Lib.hid (show (l.take (k + 1)).all shortB = true by rw [all_step HP.out, HALL.out]; unfold shortB; simp; omega)
            clear hx hy
            go_wp2_with fail
            go_roundw
            case rel => exact ⟨k + 1, by omega, by omega, by go_num, HE.out, HG.out⟩
            case measure => simp [intOf]; omega
      · have b2 : ¬ (k : Int) ≤ 45 := by omega
        have b3 : ¬ (l.length : Int) ≤ 45 := by omega
        have HF := Lib.hid (show R = false by rw [HR.out]; unfold fewB; simp; omega)
        clear h45
        go_wp2_with fail
        go_ret
        exact ⟨by rw [HF.out]; rfl, HE.out⟩
    · have hkl : k = l.length := by omega
      have b1 : ¬ (k : Int) < (l.length : Int) := by omega
      have hall := HALL.out
      rw [hkl, List.take_length] at hall
      by_cases h45 : l.length ≤ 45
      · have b2 : (l.length : Int) ≤ 45 := by omega
        have HF := Lib.hid (show R = true by rw [HR.out]; unfold fewB; rw [hall]; simp; omega)
        clear hkl hall h45
        go_wp2_with fail
        go_ret
        exact ⟨by rw [HF.out]; rfl, HE.out⟩
      · have b2 : ¬ (l.length : Int) ≤ 45 := by omega
        have HF := Lib.hid (show R = false by rw [HR.out]; unfold fewB; simp; omega)
        clear hkl hall h45
        go_wp2_with fail
        go_ret
        exact ⟨by rw [HF.out]; rfl, HE.out⟩
end
end Go.Proofs.YtolhikjjchfnjaaGreatDoor
/- canon: CanonOne. -/
namespace Go.Proofs.YtolhikjjchfnjaaGreatDoor
section
open Go Go.RowKit
set_option linter.unusedSimpArgs false
set_option linter.unusedVariables false
def oneN (a b : ByteArray) : NodeT := ⟨1, pathB a, b, noRefs 16⟩
theorem one_node (a b : ByteArray) : nodeF (buildT 12) (rowsL [(a, b)]) = oneN a b := rfl
theorem one_good {a b : ByteArray} (h : checkN [(a, b)] = 0) : GoodW (InlD 12) (oneN a b) := by
  have := (good 12 (rowsL [(a, b)]) (rows_ok (check_ok h))).1
  rw [one_node] at this; exact this
theorem one_text {a b : ByteArray} (h : checkN [(a, b)] = 0) : (trieT [(a, b)]).text = nodeB (oneN a b) := by
  have := ((good 12 (rowsL [(a, b)]) (rows_ok (check_ok h))).2.1 (by unfold rowsL; simp)).text
  rw [one_node] at this; exact this
theorem one_flat (a b : ByteArray) : ∃ t, trieT [(a, b)] = .mk t [] := by
  unfold trieT buildT
  exact ⟨_, rfl⟩
theorem one_nodes (a b : ByteArray) : (firsts (flatT (trieT [(a, b)]))).length = 1 := by
  obtain ⟨t, ht⟩ := one_flat a b
  rw [ht]
  have : flatT (.mk t []) = [t] := by unfold flatT flatTs; rfl
  rw [this]
  show (addF [] t).length = 1
  unfold addF; simp [memB]
theorem nil_good : GoodW (InlD 12) emptyN := (good 12 (rowsL []) (rows_ok (check_ok ex_nil))).1
theorem nil_text : (trieT []).text = nodeB emptyN := rfl
end
end Go.Proofs.YtolhikjjchfnjaaGreatDoor
