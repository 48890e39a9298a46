/- Parts of the proof, one behind the other: StoreG, StoreH, StoreI, StoreJ, StoreK, StoreL, StoreM. Each is under no condition but those that it states. -/
import Derived.Test.YtneojlgbcaejmaaGreatDoorBa35
/- store: Add, as far as its first loop. -/
namespace Go.Proofs.YtneojlgbcaejmaaGreatDoor
section
open Go Go.RowKit
set_option linter.unusedSimpArgs false
set_option linter.unusedVariables false
attribute [local go_sem] Oper.semAt_some
def picks (G : List Nd5) (F : List ByteArray) : List Nd5 := F.filterMap fun x => atL G x.data.toList
theorem picks_step {G : List Nd5} {F : List ByteArray} {i : Nat} {x : ByteArray} {y : Nd5} (hx : F[i]? = some x) (hy : atL G x.data.toList = some y) : picks G (F.take (i + 1)) = picks G (F.take i) ++ [y] := by
  unfold picks
  rw [List.take_add_one, hx, List.filterMap_append]
  simp [hy]
theorem picks_mem {G : List Nd5} {F : List ByteArray} {y : Nd5} (h : y ∈ picks G F) : y ∈ G ∧ ∃ x ∈ F, y.1 = x.data.toList := by
  obtain ⟨x, hx, e⟩ := List.mem_filterMap.1 h
  exact ⟨(atL_mem e).1, x, hx, (atL_mem e).2⟩
theorem atL_app {A B : List Nd5} {k : Key} (h : ∀ x ∈ B, k ≠ x.1) : atL (A ++ B) k = atL A k := by
  unfold atL
  rw [List.find?_append]
  have : B.find? (fun x => decide (k = x.1)) = none := by rw [List.find?_eq_none]; simpa using h
  rw [this]; simp
theorem MapAt.notRow {W : World} {bm : Nat} {L : List Nd5} (h : MapAt W bm L) : NoRow W (fun z => z = bm) := fun z cur fz e hz => by
  obtain ⟨es, ck, h1, _⟩ := h.mp
  have e : z = bm := e
  subst e
  have := h1.uniq hz; cases this
/-- The first loop of Add. -/
structure Ad1 (w4 : World) (s bm bg : Nat) (room : Int) (S G : List Nd5) (F : List ByteArray) (v : Value) (i : Nat) (W : World) : Prop where
  kp : Keeps (fun z => z = bm) w4 W
  st : StoreAt W s bm room (S ++ picks G (F.take i))
  gv : MapAt W bg G
  row : W.ownsRow 0 9 1 v F.length (F.map Value.string)
theorem Ad1.ext {w4 : World} {s bm bg : Nat} {room : Int} {S G : List Nd5} {F : List ByteArray} {v : Value} {i : Nat} {W W' : World} (h : Ad1 w4 s bm bg room S G F v i W) (e : Ext W W') : Ad1 w4 s bm bg room S G F v i W' :=
  ⟨h.kp.trans (e.mono (fun _ _ g => g.elim)), h.st.ext e, h.gv.ext e, own_ext h.row e⟩
/-- A fresh item is put. -/
theorem Ad1.put {w4 : World} {s bm bg : Nat} {room : Int} {S G : List Nd5} {F : List ByteArray} {v : Value} {i : Nat} {W : World} (h : Ad1 w4 s bm bg room S G F v i W)
    (hSG : ∀ x ∈ S, ∀ y ∈ G, x.2.1 ≠ y.2.1) (hbg : bg ≠ bm) (hv : ∀ z, v.ownBlock = some z → z ≠ bm) (hnd : F.Nodup) (hFS : ∀ x ∈ F, atL S x.data.toList = none)
    {x : ByteArray} {y : Nd5} (hx : F[i]? = some x) (hy : atL G x.data.toList = some y) :
    ∃ o, (Instr.mapUpdate 89 (.map (some bm)) (.string x) (.pointer (some ⟨y.2.1, 0, none⟩))).run Tryz.prog W = .ok () (W.putObj bm o) ∧ Ad1 w4 s bm bg room S G F v (i + 1) (W.putObj bm o) := by
  have hk : ∀ z ∈ picks G (F.take i), x.data.toList ≠ z.1 := fun z hz e => by
    obtain ⟨_, x', hx', e'⟩ := picks_mem hz
    have := ba_data (e.trans e')
    subst this
    exact nodup_take hnd hx hx'
  have hn : atL (S ++ picks G (F.take i)) x.data.toList = none := by rw [atL_app hk]; exact hFS x (List.mem_of_getElem? hx)
  have hym := (atL_mem hy).1
  have hy1 := (atL_mem hy).2
  have hblk : ∀ z ∈ S ++ picks G (F.take i), z.2.1 ≠ y.2.1 := fun z hz e => by
    rcases List.mem_append.1 hz with hz | hz
    · exact hSG z hz y hym e
    · have := nodup_map_inj h.gv.blks (picks_mem hz).1 hym e
      subst this
      exact hk z hz hy1.symm
  obtain ⟨o, hmu, hA⟩ := h.st.mp.put x hn (h.gv.items y hym) hblk
  have hK : Keeps (fun z => z = bm) W (W.putObj bm o) := Keeps.onePut W bm o
  have hN := h.st.mp.notRow
  have hie : ∀ {c : Nat} {it : It}, ItemAt W c it → ¬ c = bm := fun hi e => by
    obtain ⟨_, hc, _⟩ := hi.cells
    obtain ⟨es, ck, h1, _⟩ := h.st.mp.mp
    subst e
    have := h1.uniq hc; cases this
  refine ⟨o, hmu, h.kp.trans hK, ⟨h.st.st.keeps hK (fun e => ?_), ?_⟩, h.gv.keeps hK hbg (fun z hz => hie (h.gv.items z hz)) hN, own_keeps h.row hK (fun z hz e => hv z hz e)⟩
  · have e : s = bm := e
    obtain ⟨es, ck, h1, _⟩ := h.st.mp.mp
    subst e
    have := h1.uniq h.st.st; cases this
  · rw [picks_step hx hy, ← List.append_assoc]
    have e : (x.data.toList, y.2.1, y.2.2) = y := by rw [← hy1]
    rw [e] at hA
    exact hA
theorem atL_or (A B : List Nd5) (k : Key) : (atL (A ++ B) k).isSome = ((atL A k).isSome || (atL B k).isSome) := by
  unfold atL
  rw [List.find?_append, Option.isSome_or]
theorem s1_has {S G : List Nd5} {root : ByteArray} {M : List ByteArray} {i : Nat} (h : Path S G root M i) {r : ByteArray} (hr : r ∈ M) : (atL (S ++ picks G (frK S M)) r.data.toList).isSome = true := by
  rw [atL_or]
  cases hs : atL S r.data.toList with
  | some y => rfl
  | none =>
    obtain ⟨y, hy⟩ := Option.isSome_iff_exists.1 (h.inG r hr)
    have hm : y ∈ picks G (frK S M) := List.mem_filterMap.2 ⟨r, frK_mem.2 ⟨hr, hs⟩, hy⟩
    cases hp : atL (picks G (frK S M)) r.data.toList with
    | some z => rfl
    | none => exact absurd (atL_mem hy).2.symm (atL_none.1 hp y hm)
def AdR2 (w5 : World) (s bm bg : Nat) (room : Int) (S1 G : List Nd5) (F : List ByteArray) (v iv : Value) (W : World) : Prop := ∃ i : Nat, i ≤ F.length ∧ iv = .int .i64 i ∧ Ad2 w5 s bm bg room S1 G F v ((F.take i).flatMap (refsO G)) W
def AdR3 (w5 : World) (s bm bg : Nat) (room : Int) (S1 G : List Nd5) (F : List ByteArray) (v : Value) (T R : List ByteArray) (rv jv : Value) (W : World) : Prop := ∃ j : Nat, j ≤ R.length ∧ jv = .int .i64 j ∧ Ad2 w5 s bm bg room S1 G F v (T ++ R.take j) W ∧ W.ownsRow 0 9 1 rv R.length (R.map Value.string)
def AdR1 (w4 : World) (s bm bg : Nat) (room : Int) (S G : List Nd5) (F : List ByteArray) (v iv : Value) (W : World) : Prop := ∃ i : Nat, i ≤ F.length ∧ iv = .int .i64 i ∧ Ad1 w4 s bm bg room S G F v i W
def AddPost (w : World) (s bm : Nat) (room : Int) (S : List Nd5) (L : List ByteArray) (top : ByteArray) (e : Ending) (w' : World) : Prop :=
  ∃ (G : List Nd5) (M : List ByteArray), G.map kvI = readG L ∧ (∀ y ∈ G, w.heap.size ≤ y.2.1) ∧ Path S G (shaB top) M (frK S M).length ∧
    ((room - S.length < (frK S M).length ∧ e = .returned (.tuple #[.string ⟨#[]⟩, .int .i64 3]) ∧ Ext w w') ∨
     (¬ room - S.length < (frK S M).length ∧ e = .returned (.tuple #[.string (shaB top), .int .i64 0]) ∧
      StoreAt w' s bm room (bumpH (shaB top).data.toList (bumps ((frK S M).flatMap (refsO G)) (S ++ picks G (frK S M)))) ∧ Keeps (fun z => z = bm ∨ z ∈ S.map (·.2.1)) w w'))
set_option maxRecDepth 100000 in
set_option maxHeartbeats 8000000 in
theorem add_c (w : World) (hc : Cubes w) (s bm : Nat) (room : Int) (S : List Nd5) (h : StoreAt w s bm room S) (v : Value) (L : List ByteArray) (hv : RdS w v L) (hL : ShutL L) (top : ByteArray) (htop : L[0]? = some top) (hr0 : 0 ≤ room) (hr1 : room ≤ 9223372036854775807) (hS : S.length ≤ 100000) (hSu : ∀ x ∈ S, 0 ≤ x.2.2.used ∧ x.2.2.used ≤ 1000000000) (hSh : ∀ x ∈ S, 0 ≤ x.2.2.held ∧ x.2.2.held ≤ 1000000000) :
    Calls Tryz.prog 29 #[.pointer (some ⟨s, 0, none⟩), v] w (AddPost w s bm room S L top) := by
  have h0 : L ≠ [] := fun e => by subst e; cases htop
  have hpos : 0 < L.length := List.length_pos_iff.2 h0
  obtain ⟨a, c, rfl, _⟩ := hv.slice
  have HR := Lib.hid (sread_c w hc _ L hv hL.few h0 hL.node)
  have HC := Lib.hid hc
  have HV := Lib.hid hv
  have HL := Lib.hid hL
  have HS := Lib.hid h
  have HTOP := Lib.hid htop
  have HSU := Lib.hid hSu
  have HSHD := Lib.hid hSh
  clear hc h hv hL htop h0 hSu hSh
  go_enter Tryz.func29, Tryz.ntmps29
  go_wp2_with fail
  refine HR.out.mono ?_
  rintro e w1 ⟨bg, G, rfl, hG⟩
  obtain ⟨ax, cx, hh, hcell⟩ := HV.out.slice
  obtain ⟨ba, oa, hao, hqa⟩ := hcell 0 top HTOP.out
  subst hao
  cases hh
  have q1 := cell_ext hqa hG.ext
  have HG := Lib.hid hG
  rw [Nat.add_zero] at q1
  clear hcell hqa hG HR
  go_wp2_with fail
  refine (of_t _ _ [top] (by simp) (rds_lit w1 [top] 9) (HC.out.ext (HG.out.ext.alloc _))).mono ?_
  rintro e w2 ⟨rfl, hE⟩
  rw [catB_one]
  have hx2 := ((ExtR w1).alloc (.cells #[.string top] 9)).trans hE
  have HG2 := Lib.hid (HG.out.keeps hx2)
  obtain ⟨rt, hrt⟩ : ∃ rt, rt = shaB top := ⟨_, rfl⟩
  have HRT := Lib.hid hrt
  have HTG := Lib.hid (show (atL G rt.data.toList).isSome = true by rw [hrt]; exact given_has HG.out.is (List.mem_of_getElem? HTOP.out))
  rw [← hrt]
  clear hE hx2 hrt q1
  go_wp2_with fail
  have HSH := Lib.hid (given_shut HG2.out.is HL.out)
  have HS2 := Lib.hid (HS.out.ext HG2.out.ext)
  refine (reached_c w2 s bm room S G bg HS2.out HG2.out.at' HSH.out rt HTG.out).mono ?_
  rintro e w3 ⟨v3, n, M, rfl, hP, hF⟩
  have hlen := frK_len (S := S) hP.inG
  have hfew := HSH.out.few
  have hn : (frK S M).length = n := by have := hF.len; simpa using this
  obtain ⟨ad, cp, rfl⟩ := hF.sl
  have HP := Lib.hid hP
  have HF := Lib.hid hF
  obtain ⟨F, hFe⟩ : ∃ F, F = frK S M := ⟨_, rfl⟩
  rw [← hFe] at HF hn hlen
  have HFE := Lib.hid hFe
  have HGX := Lib.hid (HG2.out.keeps hF.ext)
  have HSX := Lib.hid (HS2.out.ext hF.ext)
  clear hP hF hFe
  go_wp2_with fail
  refine (sroom_c w3 s bm room S HSX.out hr0 hr1 (by omega)).mono ?_
  rintro e w4 ⟨rfl, hE⟩
  obtain ⟨m, hm⟩ : ∃ m, m = room - (S.length : Int) := ⟨_, rfl⟩
  rw [← hm]
  have HM := Lib.hid hm
  have HE4 := Lib.hid hE
  clear hE hm
  by_cases hfull : m < (n : Int)
  · go_wp2_with fail
    go_ret2
    refine ⟨G, M, HG2.out.is, HG2.out.news, by rw [← HRT.out]; exact HP.out, .inl ⟨by rw [← HFE.out, hn, ← HM.out]; exact hfull, rfl, (HG2.out.ext.trans HF.out.ext).trans HE4.out⟩⟩
  · have hA0 : Ad1 w4 s bm bg room S G F (.slice ad n cp) 0 w4 := ⟨Keeps.refl _ _, by rw [List.take_zero]; show StoreAt w4 s bm room (S ++ []); rw [List.append_nil]; exact HSX.out.ext HE4.out, HGX.out.at'.ext HE4.out, by rw [hn]; exact own_ext HF.out.own HE4.out⟩
    have HA0 := Lib.hid hA0
    have hbm := HS.out.mp.mp
    obtain ⟨_, _, hbm, _⟩ := hbm
    have hbmlt := hbm.lt
    have HNE := Lib.hid (show ∀ z, (Value.slice ad n cp).ownBlock = some z → z ≠ bm from fun z hz e => by have := HF.out.new z hz; have := HG2.out.ext.size; omega)
    have HBG := Lib.hid (show bg ≠ bm from fun e => by have := HG2.out.new; omega)
    have HSG := Lib.hid (show ∀ x ∈ S, ∀ y ∈ G, x.2.1 ≠ y.2.1 from fun x hx y hy e => by have := (HS.out.mp.items x hx).lt; have := HG2.out.news y hy; omega)
    have HND := Lib.hid (show F.Nodup by rw [HFE.out]; exact frK_nodup S M)
    have HFS := Lib.hid (show ∀ x ∈ F, atL S x.data.toList = none from fun x hx => by rw [HFE.out] at hx; exact (frK_mem.1 hx).2)
    have HFG := Lib.hid (show ∀ x ∈ F, (atL G x.data.toList).isSome = true from fun x hx => by rw [HFE.out] at hx; exact HP.out.inG x (frK_mem.1 hx).1)
    have HST := Lib.hid (HS.out.st)
    subst hn
    clear hA0 hbm
    go_wp2_with fail
    rw [show decide (m < (F.length : Int)) = false from decide_eq_false (Int.not_lt.2 hfull)]
    go_loopw [46] (fun iv wr => AdR1 w4 s bm bg room S G F (.slice ad F.length cp) iv wr) (fun iv _ => F.length - (intOf iv).toNat)
    case atStart => exact ⟨0, Nat.zero_le _, rfl, HA0.out⟩
    case round =>
      obtain ⟨i, hi, rfl, hA⟩ := hrel
      have HA := Lib.hid hA
      by_cases hlt : i < F.length
      · have b1 : (i : Int) < (F.length : Int) := by omega
        obtain ⟨x, hx⟩ : ∃ x, F[i]? = some x := ⟨_, List.getElem?_eq_getElem hlt⟩
        obtain ⟨ax, cx, hh, hcell⟩ := (own_rd hA.row).slice
        obtain ⟨ba2, oa2, hao, hqa⟩ := hcell i x hx
        subst hao
        cases hh
        obtain ⟨y, hy⟩ := Option.isSome_iff_exists.1 (HFG.out x (List.mem_of_getElem? hx))
        have Q1 := Lib.hid (hA.st.st.cell (i := 1) (v := .map (some bm)) (by rfl))
        have HGV := Lib.hid hA.gv
        have HX := Lib.hid hx
        have HY := Lib.hid hy
        obtain ⟨yb, hyb⟩ : ∃ yb, yb = y.2.1 := ⟨_, rfl⟩
        have HYB := Lib.hid hyb
        clear hcell hx hy hA hyb
        go_wp2_with fail
        refine wp_region_mix [0,1,2,3,4,5,6,7,8] [8] Ext ExtR ExtT (by kernel_rfl) (by kernel_rfl) (by kernel_rfl) ?_
        iterate 1 (refine mix_pure _ rfl (by kernel_rfl) rfl rfl (fun K hK => ?_); go_big_quiet_op; refine hK _ ?_; clear hK K)
        refine mix_any _ (.pointer (some ⟨s, 0, none⟩)) rfl (by kernel_rfl) rfl (fun w1 => by kernel_rfl) ?_
        simp only [Act.put, List.setIfInBounds_toArray, List.set_cons_zero, List.set_cons_succ]
        iterate 1 (refine mix_pure _ rfl (by kernel_rfl) rfl rfl (fun K hK => ?_); go_big_quiet_op; refine hK _ ?_; clear hK K)
        refine mix_load ⟨s, 1, none⟩ _ rfl (by kernel_rfl) rfl rfl (fun w1 h1 => run_load_plain Tryz.underlying89 rfl (cell_ext Q1.out ((drewE _).trans h1))) ?_
        simp only [Act.put, List.setIfInBounds_toArray, List.set_cons_zero, List.set_cons_succ]
        iterate 3 (refine mix_pure _ rfl (by kernel_rfl) rfl rfl (fun K hK => ?_); go_big_quiet_op; refine hK _ ?_; clear hK K)
        refine mix_val _ (.pointer (some ⟨yb, 0, none⟩)) rfl (by kernel_rfl) rfl (fun w1 h1 => by
          have hx := (HGV.out.ext ((drewE _).trans h1)).look x false
          rw [HY.out] at hx
          unfold ptrO at hx
          simp only [Bool.false_eq_true, if_false] at hx
          rw [← HYB.out] at hx
          simp [execOp, Act.eval, hx, Sem.run_bind, Result.andThen, Sem.run_pure]) ?_
        simp only [Act.put, List.setIfInBounds_toArray, List.set_cons_zero, List.set_cons_succ]
        refine mix_hard _ rfl (by kernel_rfl) rfl (fun w5 he K hK => ?_)
        have hA5 := HA.out.ext ((drewE _).trans he)
        obtain ⟨ob, hmu, hA6⟩ := hA5.put HSG.out HBG.out HNE.out HND.out HFS.out HX.out HY.out
        rw [← HYB.out] at hmu
        have HA6 := Lib.hid hA6
        clear hA5 hA6 he HA Q1 HGV hqa
        go_simp
        refine hK _ _ ?_
        clear hK K
        refine mix_end (by kernel_rfl) (fun w7 he => ?_)
        have HA7 := Lib.hid (HA6.out.ext he)
        clear he HA6 hmu
        go_wp2_with fail
        go_roundw
        case rel => exact ⟨i + 1, by omega, by go_num, HA7.out⟩
        case measure => simp [intOf]; omega
      · have hie : i = F.length := by omega
        subst hie
        obtain ⟨S1, hS1⟩ : ∃ S1, S1 = S ++ picks G F := ⟨_, rfl⟩
        have HS1 := Lib.hid hS1
        have HB0 := Lib.hid (show Ad2 wr s bm bg room S1 G F (.slice ad F.length cp) [] wr from ⟨Keeps.refl _ _, by have := hA.st; rw [List.take_length] at this; rw [hS1]; exact this, ⟨G, hA.gv, fun k => rfl⟩, hA.row⟩)
        have HU := Lib.hid (show ∀ x ∈ S1, 0 ≤ x.2.2.used ∧ x.2.2.used ≤ 1000000000 from fun x hx => by
          rw [hS1] at hx
          rcases List.mem_append.1 hx with hx | hx
          · exact HSU.out x hx
          · obtain ⟨t, ht, _, e⟩ := given_is HG2.out.is (picks_mem hx).1
            rw [e]; exact ⟨Int.le_refl _, by show (0 : Int) ≤ 1000000000; decide⟩)
        have HR1 := Lib.hid (show ∀ r ∈ F.flatMap (refsO G), (atL S1 r.data.toList).isSome = true from fun r hr => by
          rw [hS1, HFE.out]
          refine s1_has HP.out ?_
          have := HP.out.is
          rw [List.take_length, ← HFE.out] at this
          rw [this]; exact List.mem_cons_of_mem _ hr)
        obtain ⟨w5, hw5⟩ : ∃ w5, w5 = wr := ⟨_, rfl⟩
        rw [← hw5] at HB0
        have HB0 := Lib.hid (show Ad2 w5 s bm bg room S1 G F (.slice ad F.length cp) [] wr by rw [← hw5]; exact HB0.out)
        have HA1 := Lib.hid (show Keeps (fun z => z = bm) w4 w5 by rw [hw5]; exact hA.kp)
        clear HA0 hA HA hS1 hw5
        go_wp2_with fail
        go_loopw [61] (fun iv wr => AdR2 w5 s bm bg room S1 G F (.slice ad F.length cp) iv wr) (fun iv _ => F.length - (intOf iv).toNat)
        case atStart => exact ⟨0, Nat.zero_le _, rfl, HB0.out⟩
        case round =>
          obtain ⟨i, hi2, rfl, hA⟩ := hrel
          by_cases hlt2 : i < F.length
          · have b1 : (i : Int) < (F.length : Int) := by omega
            obtain ⟨x, hx⟩ : ∃ x, F[i]? = some x := ⟨_, List.getElem?_eq_getElem hlt2⟩
            obtain ⟨ax, cx, hh, hcell⟩ := (own_rd hA.row).slice
            obtain ⟨ba2, oa2, hao, hqa⟩ := hcell i x hx
            subst hao
            cases hh
            obtain ⟨y, hy⟩ := Option.isSome_iff_exists.1 (HFG.out x (List.mem_of_getElem? hx))
            obtain ⟨G', hG1, hG2⟩ := hA.gv
            have hk := hG2 x.data.toList
            rw [hy] at hk
            obtain ⟨y', hy', hk⟩ := Option.map_eq_some_iff.1 hk
            have hlk := hG1.look x false
            rw [hy'] at hlk
            unfold ptrO at hlk
            simp only [Bool.false_eq_true, if_false] at hlk
            obtain ⟨rv, hIb, hIr⟩ := (hG1.items y' (atL_mem hy').1).cells
            have hyr : y'.2.2.refs = refsO G x := by rw [refsO_some hy]; exact congrArg (fun z => z.2.2) hk
            obtain ⟨R, hR⟩ : ∃ R, R = refsO G x := ⟨_, rfl⟩
            rw [hyr, ← hR] at hIr
            obtain ⟨ar, cr, rfl⟩ := row_slice hIr
            have qr := hIb.cell (i := 1) (v := .slice ar R.length cr) (by rfl)
            obtain ⟨T, hT⟩ : ∃ T, T = (F.take i).flatMap (refsO G) := ⟨_, rfl⟩
            have HT1 := Lib.hid (show (F.take (i + 1)).flatMap (refsO G) = T ++ R by rw [List.take_add_one, hx, List.flatMap_append, hT, hR]; simp)
            have HTL := Lib.hid (show T.length ≤ 16000 by
              have := flatG_len HSH.out (F.take i)
              rw [hT]; rw [List.length_take] at this; omega)
            have HRL := Lib.hid (show R.length ≤ 16 by rw [hR, refsO_some hy]; exact HSH.out.refs y (atL_mem hy).1)
            have HRR := Lib.hid (show ∀ r ∈ R, (atL S1 r.data.toList).isSome = true from fun r hr => HR1.out r (List.mem_flatMap.2 ⟨x, List.mem_of_getElem? hx, by rw [← hR]; exact hr⟩))
            rw [← hT] at hA
            have HA3 := Lib.hid (show AdR3 w5 s bm bg room S1 G F (.slice (some ⟨ba2, oa2, none⟩) F.length cp) T R (.slice ar R.length cr) (.int .i64 0) wr from ⟨0, Nat.zero_le _, rfl, by rw [List.take_zero, List.append_nil]; exact hA, hIr⟩)
            obtain ⟨yb, hyb⟩ : ∃ yb, yb = y'.2.1 := ⟨_, rfl⟩
            rw [← hyb] at hlk qr
            clear hcell hx hy hG1 hG2 hk hy' hIb hIr hyr hR hT hA hyb
            go_wp2_with fail
            go_loopw [72] (fun jv wr2 => AdR3 w5 s bm bg room S1 G F (.slice (some ⟨ba2, oa2, none⟩) F.length cp) T R (.slice ar R.length cr) jv wr2) (fun jv _ => R.length - (intOf jv).toNat)
            case atStart => exact HA3.out
            case round =>
              obtain ⟨j, hj, rfl, hB, hrw⟩ := hrel
              by_cases hlt3 : j < R.length
              · have b2 : (j : Int) < (R.length : Int) := by omega
                obtain ⟨z, hz⟩ : ∃ z, R[j]? = some z := ⟨_, List.getElem?_eq_getElem hlt3⟩
                obtain ⟨ax3, cx3, hh3, hcell3⟩ := (own_rd hrw).slice
                obtain ⟨ba3, oa3, hao3, hqa3⟩ := hcell3 j z hz
                subst hao3
                cases hh3
                have qs := hB.st.st.cell (i := 1) (v := .map (some bm)) (by rfl)
                obtain ⟨zb, u, hlk3, qu, fu, hu0, hu1, hB2, hrow2⟩ := hB.bump HU.out (by have := HTL.out; have := HRL.out; rw [List.length_append, List.length_take]; omega) z (HRR.out z (List.mem_of_getElem? hz))
                have hrl := HRL.out
                have hw1 : -9223372036854775808 ≤ u + 1 := by omega
                have hw2 : u + 1 ≤ 9223372036854775807 := by omega
                have HB2 := Lib.hid (And.intro (show Ad2 w5 s bm bg room S1 G F (.slice (some ⟨ba2, oa2, none⟩) F.length cp) (T ++ R.take (j + 1)) _ by rw [List.take_add_one, hz, ← List.append_assoc]; exact hB2) (hrow2 _ _ _ hrw))
                clear hcell3 hz hB hrw hB2 hrow2 hlk qr
                go_wp2_with fail
                go_roundw
                case rel => exact ⟨j + 1, by omega, by go_num, HB2.out.1, HB2.out.2⟩
                case measure => simp [intOf]; omega
              · have hje : j = R.length := by omega
                subst hje
                rw [List.take_length, ← HT1.out] at hB
                have HB4 := Lib.hid hB
                clear hB hrw HA3 hlk qr
                go_wp2_with fail
                go_roundw
                case rel => exact ⟨i + 1, by omega, by go_num, HB4.out⟩
                case measure => simp [intOf]; omega
          · have hie2 : i = F.length := by omega
            subst hie2
            rw [List.take_length] at hA
            have HB5 := Lib.hid hA
            have hroot : (atL S1 rt.data.toList).isSome = true := by
              rw [HS1.out, HFE.out]
              exact s1_has HP.out (by rw [HP.out.is]; exact List.mem_cons_self)
            have HHD := Lib.hid (show ∀ x ∈ S1, 0 ≤ x.2.2.held ∧ x.2.2.held ≤ 1000000000 from fun x hx => by
              rw [HS1.out] at hx
              rcases List.mem_append.1 hx with hx | hx
              · exact HSHD.out x hx
              · obtain ⟨t, ht, _, e⟩ := given_is HG2.out.is (picks_mem hx).1
                rw [e]; exact ⟨Int.le_refl _, by show (0 : Int) ≤ 1000000000; decide⟩)
            have qs := hA.st.st.cell (i := 1) (v := .map (some bm)) (by rfl)
            obtain ⟨zb, u, hlk3, qu, fu, hu0, hu1, hSE, hKE⟩ := hA.hold HHD.out rt hroot
            have hw1 : -9223372036854775808 ≤ u + 1 := by omega
            have hw2 : u + 1 ≤ 9223372036854775807 := by omega
            have HSE := Lib.hid hSE
            have HKE := Lib.hid (((HG2.out.ext.trans HF.out.ext).trans HE4.out).mono (G := fun z => z = bm ∨ z ∈ S.map (·.2.1)) (fun _ _ g => g.elim))
            have HK5 := Lib.hid hKE
            have HKA := Lib.hid HA1.out
            clear hA HB0 HA1 hSE hKE hroot
            go_wp2_with fail
            go_ret2
            refine ⟨G, M, HG2.out.is, HG2.out.news, by rw [← HRT.out]; exact HP.out, .inr ⟨by rw [← HFE.out, ← HM.out]; exact Int.not_lt.2 hfull, by rw [HRT.out]; rfl, ?_, ?_⟩⟩
            · rw [← HFE.out, ← HS1.out, ← HRT.out]; exact HSE.out
            · refine (Keeps.trans' (F := fun z => z = bm ∨ z ∈ S.map (·.2.1)) HKE.out HKA.out (fun z hz e => .inl e)).trans' HK5.out (fun z hz e => ?_)
              rw [HS1.out, List.map_append] at e
              rcases List.mem_append.1 e with e | e
              · exact .inr e
              · obtain ⟨y, hy, rfl⟩ := List.mem_map.1 e
                have := HG2.out.news y (picks_mem hy).1
                omega
end
end Go.Proofs.YtneojlgbcaejmaaGreatDoor
/- store: Add of nothing. -/
namespace Go.Proofs.YtneojlgbcaejmaaGreatDoor
section
open Go Go.RowKit
set_option linter.unusedSimpArgs false
set_option linter.unusedVariables false
attribute [local go_sem] Oper.semAt_some
set_option maxRecDepth 100000 in
set_option maxHeartbeats 4000000 in
theorem sread_nil (w : World) (a : Option Addr) (c : Nat) : Calls Tryz.prog 52 #[.slice a 0 c] w fun e w' => e = .returned (.tuple #[.map none, .int .i64 2]) ∧ Ext w w' := by
  go_enter Tryz.func52, Tryz.ntmps52
  go_wp2_with fail
  go_ret2
  exact ⟨rfl, ExtR w⟩
set_option maxRecDepth 100000 in
set_option maxHeartbeats 4000000 in
theorem add_nil (w : World) (p : Value) (a : Option Addr) (c : Nat) : Calls Tryz.prog 29 #[p, .slice a 0 c] w fun e w' => e = .returned (.tuple #[.string ⟨#[]⟩, .int .i64 2]) ∧ Ext w w' := by
  go_enter Tryz.func29, Tryz.ntmps29
  go_wp2_with fail
  refine (sread_nil w a c).mono ?_
  rintro e w1 ⟨rfl, hE⟩
  have HE := Lib.hid hE
  clear hE
  go_wp2_with fail
  go_ret2
  exact ⟨rfl, HE.out⟩
end
end Go.Proofs.YtneojlgbcaejmaaGreatDoor
/- store: Drop, of a root that is held still. -/
namespace Go.Proofs.YtneojlgbcaejmaaGreatDoor
section
open Go Go.RowKit
set_option linter.unusedSimpArgs false
set_option linter.unusedVariables false
attribute [local go_sem] Oper.semAt_some
theorem StoreAt.setH {W : World} {s bm : Nat} {room : Int} {S : List Nd5} (h : StoreAt W s bm room S) {k : Key} {y : Nd5} (hy : atL S k = some y) (v : Int) : StoreAt (W.setCell ⟨y.2.1, 3, none⟩ (.int .i64 v)) s bm room (S.map (setB 3 y.2.1 v)) := by
  have hi := h.mp.items y (atL_mem hy).1
  obtain ⟨rv, hb, _⟩ := hi.cells
  have hK : Keeps (fun z => z = y.2.1) W (W.setCell ⟨y.2.1, 3, none⟩ (.int .i64 v)) := Keeps.oneSet W ⟨y.2.1, 3, none⟩ _
  refine ⟨h.st.keeps hK (fun e => ?_), h.mp.setF hi (.inr rfl) v⟩
  have e : s = y.2.1 := e
  rw [e] at h
  have := hb.uniq h.st; injection this with _ h2; exact absurd h2 (by decide)
def DrRel (w5 : World) (g : Nat) (v : Value) (W : World) : Prop := Ext w5 W ∧ (v = .slice (some ⟨g, 0, none⟩) 1 1 ∨ ∃ a c, v = .slice a 0 c)
set_option maxRecDepth 100000 in
set_option maxHeartbeats 8000000 in
theorem drop_more (w : World) (s bm : Nat) (room : Int) (S : List Nd5) (h : StoreAt w s bm room S) (hb : ∀ x ∈ S, 0 ≤ x.2.2.used ∧ x.2.2.used ≤ 1000000000 ∧ 0 ≤ x.2.2.held ∧ x.2.2.held ≤ 1000000000) (k : ByteArray) (y : Nd5) (hy : atL S k.data.toList = some y) (h1 : 1 ≤ y.2.2.held) (h2 : 2 ≤ y.2.2.used + y.2.2.held) :
    Calls Tryz.prog 47 #[.pointer (some ⟨s, 0, none⟩), .string k] w fun e w' => e = .returned (.int .i64 0) ∧ StoreAt w' s bm room (S.map (setB 3 y.2.1 (y.2.2.held - 1))) ∧ Keeps (fun z => z = y.2.1) w w' := by
  have HS := Lib.hid h
  have HB := Lib.hid hb
  have HY := Lib.hid hy
  have hym := (atL_mem hy).1
  have hbd := hb y hym
  have hc := sheld_c w s bm room S k h
  rw [hy] at hc
  obtain ⟨yb, hyb⟩ : ∃ yb, yb = y.2.1 := ⟨_, rfl⟩
  obtain ⟨hd, hhd⟩ : ∃ hd, hd = y.2.2.held := ⟨_, rfl⟩
  obtain ⟨us, hus⟩ : ∃ us, us = y.2.2.used := ⟨_, rfl⟩
  have hho : heldO (some y) = hd := hhd.symm
  rw [hho] at hc
  rw [← hhd, ← hus] at hbd h2
  rw [← hhd] at h1
  rw [← hyb, ← hhd]
  have HYB := Lib.hid hyb
  have HHD := Lib.hid hhd
  have HUS := Lib.hid hus
  have HC := Lib.hid hc
  have hnz : (hd == 0) = false := by simp; omega
  clear h hb hy hym hc hyb hhd hus hho
  go_enter Tryz.func47, Tryz.ntmps47
  go_wp2_with fail
  refine HC.out.mono ?_
  rintro e w1 ⟨rfl, hE⟩
  have h := HS.out.ext hE
  have hyb := HYB.out
  have hhd := HHD.out
  have hus := HUS.out
  have hy := HY.out
  have hym := (atL_mem hy).1
  have hst : StoreAt (w1.setCell ⟨yb, 3, none⟩ (.int .i64 (hd - 1))) s bm room (S.map (setB 3 yb (hd - 1))) := by rw [hyb]; exact h.setH hy _
  have hK : Keeps (fun z => z = yb) w1 (w1.setCell ⟨yb, 3, none⟩ (.int .i64 (hd - 1))) := Keeps.oneSet w1 ⟨yb, 3, none⟩ _
  have hat : atL (S.map (setB 3 yb (hd - 1))) k.data.toList = some (setB 3 yb (hd - 1) y) := by rw [atL_setB, hy]; rfl
  have hcn : countO (atL (S.map (setB 3 yb (hd - 1))) k.data.toList) = us + (hd - 1) := by
    rw [hat]; unfold setB; rw [if_pos hyb.symm, hus]; rfl
  have hcb : ∀ x ∈ S.map (setB 3 yb (hd - 1)), -1000000000 ≤ x.2.2.used ∧ x.2.2.used ≤ 1000000000 ∧ -1000000000 ≤ x.2.2.held ∧ x.2.2.held ≤ 1000000000 := fun x hx => by
    obtain ⟨z, hz, rfl⟩ := List.mem_map.1 hx
    have := HB.out z hz
    unfold setB
    split
    · show -1000000000 ≤ z.2.2.used ∧ z.2.2.used ≤ 1000000000 ∧ -1000000000 ≤ hd - 1 ∧ hd - 1 ≤ 1000000000
      omega
    · omega
  have hlk := h.mp.look k false
  rw [hy] at hlk
  unfold ptrO at hlk
  simp only [Bool.false_eq_true, if_false] at hlk
  rw [← hyb] at hlk
  obtain ⟨S', hS'⟩ : ∃ S', S' = S.map (setB 3 yb (hd - 1)) := ⟨_, rfl⟩
  rw [← hS'] at hst hcn hcb
  have HS' := Lib.hid hS'
  obtain ⟨rv, hBk, _⟩ := (h.mp.items y hym).cells
  rw [← hyb, ← hhd] at hBk
  have qs := h.st.cell (i := 1) (v := .map (some bm)) (by rfl)
  have qh := hBk.cell (i := 3) (v := .int .i64 hd) (by rfl)
  have fh : w1.frozen? ⟨yb, 3, none⟩ = false := hBk.frozen
  have HST := Lib.hid hst
  have HCN := Lib.hid hcn
  have HCB := Lib.hid hcb
  have HK := Lib.hid ((hE.mono (G := fun z => z = yb) (fun _ _ g => g.elim)).trans hK)
  have hw1 : -9223372036854775808 ≤ hd - 1 := by omega
  have hw2 : hd - 1 ≤ 9223372036854775807 := by omega
  clear h hy hym hyb hhd hus hst hcn hcb hK hat hS' hBk HS HC hE HY HB
  obtain ⟨w2, hw2'⟩ : ∃ w2, w2 = w1.setCell ⟨yb, 3, none⟩ (.int .i64 (hd - 1)) := ⟨_, rfl⟩
  have HW2 := Lib.hid hw2'
  rw [← hw2'] at HST HK
  go_wp2_with fail
  rw [← hw2']
  clear hw2' qs qh fh hlk
  obtain ⟨g, hg⟩ : ∃ g, g = w1.heap.size := ⟨_, rfl⟩
  have hgw : w2.heap.size = g := by rw [HW2.out, hg]; simp
  rw [← hg]
  clear hg
  obtain ⟨w3, hw3⟩ : ∃ w3, w3 = w2.alloc (.cells #[.string k] 9) := ⟨_, rfl⟩
  rw [← hw3]
  have HE3 := Lib.hid (show Ext w2 w3 by rw [hw3]; exact (ExtR w2).alloc _)
  have HQ := Lib.hid (show w3.cell? ⟨g, 0, none⟩ = some (.string k) by
    have := (Blk.new w2 (.cells #[.string k] 9)).cell (i := 0) (v := .string k) (by rfl)
    rw [← hw3, hgw] at this; exact this)
  have HST3 := Lib.hid (HST.out.ext HE3.out)
  clear hw3 hgw
  obtain ⟨cn, hcn⟩ : ∃ cn, cn = us + (hd - 1) := ⟨_, rfl⟩
  have hp : 0 < cn := by omega
  rw [← hcn] at HCN
  clear hcn
  go_loopw [5] (fun v wr => DrRel w3 g v wr) (fun v _ => slN v)
  case atStart => exact ⟨ExtR w3, .inl rfl⟩
  case round =>
    obtain ⟨hX, rfl | ⟨a, c, rfl⟩⟩ := hrel
    · have q1 := cell_ext HQ.out hX
      have HX := Lib.hid hX
      clear hX
      go_wp2_with fail
      refine (scount_c wr s bm room S' k (HST3.out.ext HX.out) HCB.out).mono ?_
      rintro e w5 ⟨rfl, hE⟩
      rw [HCN.out]
      have HE5 := Lib.hid (HX.out.trans hE)
      clear hE q1
      go_wp2_with fail
      go_roundw
      case rel => exact ⟨HE5.out, .inr ⟨_, _, rfl⟩⟩
      case measure => simp [slN]
    · have HX := Lib.hid hX
      clear hX
      go_wp2_with fail
      go_ret
      refine ⟨rfl, ?_, ?_⟩
      · rw [← HS'.out]; exact HST3.out.ext HX.out
      · skip
        exact HK.out.trans ((HE3.out.trans HX.out).mono (fun _ _ g => g.elim))
end
end Go.Proofs.YtneojlgbcaejmaaGreatDoor
/- store: Drop, of a root without refs that is held no more. -/
namespace Go.Proofs.YtneojlgbcaejmaaGreatDoor
section
open Go Go.RowKit
set_option linter.unusedSimpArgs false
set_option linter.unusedVariables false
attribute [local go_sem] Oper.semAt_some
def delL (L : List Nd5) (k : Key) : List Nd5 := L.filter fun x => !decide (k = x.1)
theorem delV_eq (k : Key) : ∀ L : List Nd5, (L.map (·.1)).Nodup → delV (L.map kvN) k = (delL L k).map kvN
  | [], _ => rfl
  | x :: r, h => by
    rw [List.map_cons, List.nodup_cons] at h
    rw [List.map_cons, delV]
    unfold delL
    by_cases e : k = x.1
    · rw [if_pos (show k = (kvN x).1 from e), List.filter_cons_of_neg (by simp [e])]
      congr 1
      symm
      rw [List.filter_eq_self]
      intro y hy
      have : k ≠ y.1 := fun e2 => h.1 (List.mem_map.2 ⟨y, hy, by rw [← e2, e]⟩)
      simpa using this
    · rw [if_neg (show ¬ k = (kvN x).1 from e), List.filter_cons_of_pos (by simp [e]), List.map_cons, delV_eq k r h.2]; rfl
theorem MapAt.del {W : World} {bm : Nat} {L : List Nd5} (h : MapAt W bm L) (k : ByteArray) :
    ∃ o, (∀ kt r, (Builtin.delete_ #[89, kt] r #[.map (some bm), .string k]).run Tryz.prog W = .ok (.tuple #[]) (W.putObj bm o)) ∧ MapAt (W.putObj bm o) bm (delL L k.data.toList) := by
  obtain ⟨es, ck, h1, h2⟩ := h.mp
  have hk := h2.keys
  rw [List.map_map] at hk
  have hk : (L.map (·.1)).Nodup := hk
  have hd := h2.del k.data.toList
  rw [delV_eq _ L hk] at hd
  have hK : Keeps (fun z => z = bm) W (W.putObj bm (.map (Tryz.ES.arr (entDel es k.data.toList)) ck)) := Keeps.onePut W bm _
  have hs : (delL L k.data.toList).Sublist L := List.filter_sublist
  refine ⟨_, fun kt r => run_delete Tryz.ES Tryz.uMapIt h1 k.data.toList kt r, ⟨_, _, h1.put_same _, hd⟩, h.blks.sublist (hs.map _), fun x hx => ?_⟩
  have hi := h.items x (hs.subset hx)
  refine hi.keeps hK (fun e => ?_) h.notRow
  obtain ⟨_, hc, _⟩ := hi.cells
  have e : x.2.1 = bm := e
  rw [e] at hc
  have := h1.uniq hc; cases this
def DlRel (w3 : World) (s bm : Nat) (room : Int) (S' : List Nd5) (g : Nat) (v : Value) (W : World) : Prop := (Ext w3 W ∧ v = .slice (some ⟨g, 0, none⟩) 1 1) ∨ ((∃ a c, v = .slice a 0 c) ∧ StoreAt W s bm room S' ∧ Keeps (fun z => z = bm) w3 W)
set_option maxRecDepth 100000 in
set_option maxHeartbeats 8000000 in
theorem drop_last (w : World) (s bm : Nat) (room : Int) (S : List Nd5) (h : StoreAt w s bm room S) (hb : ∀ x ∈ S, 0 ≤ x.2.2.used ∧ x.2.2.used ≤ 1000000000 ∧ 0 ≤ x.2.2.held ∧ x.2.2.held ≤ 1000000000) (k : ByteArray) (y : Nd5) (hy : atL S k.data.toList = some y) (h1 : y.2.2.held = 1) (h2 : y.2.2.used = 0) (hrf : y.2.2.refs = []) :
    Calls Tryz.prog 47 #[.pointer (some ⟨s, 0, none⟩), .string k] w fun e w' => e = .returned (.int .i64 0) ∧ StoreAt w' s bm room (delL (S.map (setB 3 y.2.1 (y.2.2.held - 1))) k.data.toList) ∧ Keeps (fun z => z = y.2.1 ∨ z = bm) w w' := by
  have HS := Lib.hid h
  have HB := Lib.hid hb
  have HY := Lib.hid hy
  have hym := (atL_mem hy).1
  have hbd := hb y hym
  have hc := sheld_c w s bm room S k h
  rw [hy] at hc
  obtain ⟨yb, hyb⟩ : ∃ yb, yb = y.2.1 := ⟨_, rfl⟩
  obtain ⟨hd, hhd⟩ : ∃ hd, hd = y.2.2.held := ⟨_, rfl⟩
  obtain ⟨us, hus⟩ : ∃ us, us = y.2.2.used := ⟨_, rfl⟩
  have hho : heldO (some y) = hd := hhd.symm
  rw [hho] at hc
  rw [← hhd, ← hus] at hbd
  rw [← hus] at h2
  rw [← hhd] at h1
  rw [← hyb, ← hhd]
  have HYB := Lib.hid hyb
  have HHD := Lib.hid hhd
  have HUS := Lib.hid hus
  have HC := Lib.hid hc
  have hnz : (hd == 0) = false := by simp; omega
  have HRF := Lib.hid hrf
  have H1 := Lib.hid h1
  have H2 := Lib.hid h2
  clear h hb hy hym hc hyb hhd hus hho hrf h1 h2
  go_enter Tryz.func47, Tryz.ntmps47
  go_wp2_with fail
  refine HC.out.mono ?_
  rintro e w1 ⟨rfl, hE⟩
  have h := HS.out.ext hE
  have hyb := HYB.out
  have hhd := HHD.out
  have hus := HUS.out
  have hy := HY.out
  have hym := (atL_mem hy).1
  have hst : StoreAt (w1.setCell ⟨yb, 3, none⟩ (.int .i64 (hd - 1))) s bm room (S.map (setB 3 yb (hd - 1))) := by rw [hyb]; exact h.setH hy _
  have hK : Keeps (fun z => z = yb) w1 (w1.setCell ⟨yb, 3, none⟩ (.int .i64 (hd - 1))) := Keeps.oneSet w1 ⟨yb, 3, none⟩ _
  have hat : atL (S.map (setB 3 yb (hd - 1))) k.data.toList = some (setB 3 yb (hd - 1) y) := by rw [atL_setB, hy]; rfl
  have hcn : countO (atL (S.map (setB 3 yb (hd - 1))) k.data.toList) = us + (hd - 1) := by
    rw [hat]; unfold setB; rw [if_pos hyb.symm, hus]; rfl
  have hcb : ∀ x ∈ S.map (setB 3 yb (hd - 1)), -1000000000 ≤ x.2.2.used ∧ x.2.2.used ≤ 1000000000 ∧ -1000000000 ≤ x.2.2.held ∧ x.2.2.held ≤ 1000000000 := fun x hx => by
    obtain ⟨z, hz, rfl⟩ := List.mem_map.1 hx
    have := HB.out z hz
    unfold setB
    split
    · show -1000000000 ≤ z.2.2.used ∧ z.2.2.used ≤ 1000000000 ∧ -1000000000 ≤ hd - 1 ∧ hd - 1 ≤ 1000000000
      omega
    · omega
  have hlk := h.mp.look k false
  rw [hy] at hlk
  unfold ptrO at hlk
  simp only [Bool.false_eq_true, if_false] at hlk
  rw [← hyb] at hlk
  obtain ⟨S', hS'⟩ : ∃ S', S' = S.map (setB 3 yb (hd - 1)) := ⟨_, rfl⟩
  rw [← hS'] at hst hcn hcb
  have HS' := Lib.hid hS'
  obtain ⟨rv, hBk, hRw⟩ := (h.mp.items y hym).cells
  rw [HRF.out] at hRw
  obtain ⟨ar, cr, rfl⟩ := row_slice hRw
  rw [← hyb, ← hhd] at hBk
  have qs := h.st.cell (i := 1) (v := .map (some bm)) (by rfl)
  have qh := hBk.cell (i := 3) (v := .int .i64 hd) (by rfl)
  have fh : w1.frozen? ⟨yb, 3, none⟩ = false := hBk.frozen
  have HST := Lib.hid hst
  have HQR := Lib.hid (show (w1.setCell ⟨yb, 3, none⟩ (.int .i64 (hd - 1))).cell? ⟨yb, 1, none⟩ = some (.slice ar 0 cr) from (hBk.set_same (i := 3) (.int .i64 (hd - 1))).cell (i := 1) (by rfl))
  have HAT := Lib.hid (show ptrO (atL S' k.data.toList) = .pointer (some ⟨yb, 0, none⟩) by rw [hS', hat]; unfold setB; rw [if_pos hyb.symm]; show Value.pointer (some ⟨y.2.1, 0, none⟩) = _; rw [hyb])
  have HCN := Lib.hid hcn
  have HCB := Lib.hid hcb
  have HK := Lib.hid ((hE.mono (G := fun z => z = yb) (fun _ _ g => g.elim)).trans hK)
  have hw1 : -9223372036854775808 ≤ hd - 1 := by omega
  have hw2 : hd - 1 ≤ 9223372036854775807 := by omega
  clear h hy hym hyb hhd hus hst hcn hcb hK hat hS' hBk hRw HS HC hE HY HB
  obtain ⟨w2, hw2'⟩ : ∃ w2, w2 = w1.setCell ⟨yb, 3, none⟩ (.int .i64 (hd - 1)) := ⟨_, rfl⟩
  have HW2 := Lib.hid hw2'
  rw [← hw2'] at HST HK HQR
  go_wp2_with fail
  rw [← hw2']
  clear hw2' qs qh fh hlk
  obtain ⟨g, hg⟩ : ∃ g, g = w1.heap.size := ⟨_, rfl⟩
  have hgw : w2.heap.size = g := by rw [HW2.out, hg]; simp
  rw [← hg]
  clear hg
  obtain ⟨w3, hw3⟩ : ∃ w3, w3 = w2.alloc (.cells #[.string k] 9) := ⟨_, rfl⟩
  rw [← hw3]
  have HE3 := Lib.hid (show Ext w2 w3 by rw [hw3]; exact (ExtR w2).alloc _)
  have HQ := Lib.hid (show w3.cell? ⟨g, 0, none⟩ = some (.string k) by
    have := (Blk.new w2 (.cells #[.string k] 9)).cell (i := 0) (v := .string k) (by rfl)
    rw [← hw3, hgw] at this; exact this)
  have HST3 := Lib.hid (HST.out.ext HE3.out)
  clear hw3 hgw
  obtain ⟨cn, hcn⟩ : ∃ cn, cn = us + (hd - 1) := ⟨_, rfl⟩
  have hp : cn = 0 := by have := H1.out; have := H2.out; omega
  rw [← hcn] at HCN
  clear hcn
  subst hp
  go_loopw [5] (fun v wr => DlRel w3 s bm room (delL S' k.data.toList) g v wr) (fun v _ => slN v)
  case atStart => exact .inl ⟨ExtR w3, rfl⟩
  case round =>
    rcases hrel with ⟨hX, rfl⟩ | ⟨⟨a, c, rfl⟩, hS5, hK5⟩
    · have q1 := cell_ext HQ.out hX
      have HX := Lib.hid hX
      clear hX
      go_wp2_with fail
      refine (scount_c wr s bm room S' k (HST3.out.ext HX.out) HCB.out).mono ?_
      rintro e w5 ⟨rfl, hE⟩
      rw [HCN.out]
      have HE5 := Lib.hid (HX.out.trans hE)
      have hS5 := HST3.out.ext HE5.out
      have qs := hS5.st.cell (i := 1) (v := .map (some bm)) (by rfl)
      have qr := cell_ext (cell_ext HQR.out HE3.out) HE5.out
      have hlk := hS5.mp.look k false
      rw [HAT.out] at hlk
      simp only [Bool.false_eq_true, if_false] at hlk
      obtain ⟨ob, hdl, hM⟩ := hS5.mp.del k
      have hKd : Keeps (fun z => z = bm) w5 (w5.putObj bm ob) := Keeps.onePut w5 bm ob
      have hSd : StoreAt (w5.putObj bm ob) s bm room (delL S' k.data.toList) := ⟨hS5.st.keeps hKd (fun e => by
        have e : s = bm := e
        obtain ⟨es, ck, h1, _⟩ := hS5.mp.mp
        subst e
        have := h1.uniq hS5.st; cases this), hM⟩
      have HSd := Lib.hid (And.intro hSd ((HE5.out.mono (G := fun z => z = bm) (fun _ _ g => g.elim)).trans hKd))
      clear hE q1 hS5 hM hKd hSd
      go_wp2_with fail
      go_loopw [5, 65] (fun v5 iv wr2 => (∃ a c, v5 = .slice a 0 c) ∧ iv = .int .i64 0 ∧ wr2 = w5) (fun _ iv _ => 0)
      case atStart => exact ⟨⟨_, _, rfl⟩, rfl, rfl⟩
      case round =>
        obtain ⟨⟨a5, c5, rfl⟩, rfl, rfl⟩ := hrel
        go_wp2_with fail
        go_roundw
        case rel => exact .inr ⟨⟨_, _, rfl⟩, HSd.out.1, HSd.out.2⟩
        case measure => simp [slN]
    · have HS5 := Lib.hid hS5
      have HK5 := Lib.hid hK5
      clear hS5 hK5
      go_wp2_with fail
      go_ret
      refine ⟨rfl, ?_, ?_⟩
      · rw [← HS'.out]; exact HS5.out
      · exact ((HK.out.mono (G := fun z => z = yb ∨ z = bm) (fun _ _ g => .inl g)).trans (HE3.out.mono (fun _ _ g => g.elim))).trans (HK5.out.mono (fun _ _ g => .inr g))
end
end Go.Proofs.YtneojlgbcaejmaaGreatDoor
/- store: Drop of what is not held; the reference's Same. -/
namespace Go.Proofs.YtneojlgbcaejmaaGreatDoor
section
open Go Go.RowKit
set_option linter.unusedSimpArgs false
set_option linter.unusedVariables false
attribute [local go_sem] Oper.semAt_some
set_option maxRecDepth 100000 in
set_option maxHeartbeats 4000000 in
theorem drop_none (w : World) (s bm : Nat) (room : Int) (S : List Nd5) (h : StoreAt w s bm room S) (k : ByteArray) (hy : atL S k.data.toList = none) :
    Calls Tryz.prog 47 #[.pointer (some ⟨s, 0, none⟩), .string k] w fun e w' => e = .returned (.int .i64 4) ∧ Ext w w' := by
  have hc := sheld_c w s bm room S k h
  rw [hy] at hc
  have HC := Lib.hid (show Calls Tryz.prog 36 #[.pointer (some ⟨s, 0, none⟩), .string k] w fun e w' => e = .returned (.int .i64 0) ∧ Ext w w' from hc)
  clear hc h hy
  go_enter Tryz.func47, Tryz.ntmps47
  go_wp2_with fail
  refine HC.out.mono ?_
  rintro e w1 ⟨rfl, hE⟩
  have HE := Lib.hid hE
  clear hE
  go_wp2_with fail
  go_ret
  exact ⟨rfl, HE.out⟩
def SmRel (w : World) (n : Nat) (iv : Value) (W : World) (l m : List ByteArray) : Prop := ∃ i : Nat, i ≤ n ∧ iv = .int .i64 i ∧ l.take i = m.take i ∧ Ext w W
set_option maxRecDepth 100000 in
set_option maxHeartbeats 4000000 in
theorem same2_c (w : World) (v u : Value) (l m : List ByteArray) (hv : RdS w v l) (hu : RdS w u m) (hn : l.length ≤ 1000000) (hn2 : m.length ≤ 1000000) : Calls Tryz.prog 35 #[v, u] w fun e w' => e = .returned (.bool (decide (l = m))) ∧ Ext w w' := by
  obtain ⟨a, c, rfl, _⟩ := hv.slice
  obtain ⟨a2, c2, rfl, _⟩ := hu.slice
  have HV := Lib.hid hv
  have HU := Lib.hid hu
  clear hv hu
  by_cases hl : l.length = m.length
  · have hli : (l.length : Int) = (m.length : Int) := by omega
    obtain ⟨n, hn0⟩ : ∃ n, n = l.length := ⟨_, rfl⟩
    have hml : m.length = n := by omega
    have HML := Lib.hid hml
    have HNL := Lib.hid hn0
    rw [hml, ← hn0]
    rw [← hn0] at hn
    clear hli hl hml hn0 hn2
    go_enter Tryz.func35, Tryz.ntmps35
    go_wp2_with fail
    go_loopw [5] (fun iv wr => SmRel w n iv wr l m) (fun iv _ => n - (intOf iv).toNat)
    case atStart => exact ⟨0, Nat.zero_le _, rfl, rfl, ExtR w⟩
    case round =>
      obtain ⟨i, hi, rfl, htk, hE⟩ := hrel
      have HE := Lib.hid hE
      have HTK := Lib.hid htk
      clear hE htk
      by_cases hlt : i < n
      · have b1 : (i : Int) < (n : Int) := by omega
        have hl1 : i < l.length := by have := HNL.out; omega
        have hl2 : i < m.length := by have := HML.out; omega
        obtain ⟨x, hx⟩ : ∃ x, l[i]? = some x := ⟨_, List.getElem?_eq_getElem hl1⟩
        obtain ⟨y, hy⟩ : ∃ y, m[i]? = some y := ⟨_, List.getElem?_eq_getElem hl2⟩
        have hVn : RdS w (.slice a n c) l := by have := HV.out; rwa [← HNL.out] at this
        have hUn : RdS w (.slice a2 n c2) m := by have := HU.out; rwa [HML.out] at this
        have hq1 : ∃ ba oa, a = some ⟨ba, oa, none⟩ ∧ wr.cell? ⟨ba, oa + i, none⟩ = some (.string x) := by
          rcases HV.out with ⟨_, _, _, h0⟩ | ⟨bq, oq, cq, hh, _, _, hcell⟩
          · rw [h0] at hl1; cases hl1
          · exact ⟨bq, oq, (Value.slice.inj hh).1, cell_ext (hcell i x hx) HE.out⟩
        have hq2 : ∃ ba oa, a2 = some ⟨ba, oa, none⟩ ∧ wr.cell? ⟨ba, oa + i, none⟩ = some (.string y) := by
          rcases HU.out with ⟨_, _, _, h0⟩ | ⟨bq, oq, cq, hh, _, _, hcell⟩
          · rw [h0] at hl2; cases hl2
          · exact ⟨bq, oq, (Value.slice.inj hh).1, cell_ext (hcell i y hy) HE.out⟩
        obtain ⟨ba, oa, rfl, hq1⟩ := hq1
        obtain ⟨ba', oa', rfl, hq2⟩ := hq2
        have HX := Lib.hid hx
        have HY := Lib.hid hy
        have Q1 := Lib.hid hq1
        have Q2 := Lib.hid hq2
        clear hVn hUn hl1 hl2 hx hy hq1 hq2
        go_wp2_with fail
        refine wp_region_mixK [0,1,2,3,4,5,6,7,8] Ext ExtR ExtT (by kernel_rfl) (by kernel_rfl) (by kernel_rfl) ?_
        iterate 3 (refine mixk_pure _ rfl (by kernel_rfl) rfl rfl (fun K hK => ?_); go_big_quiet_op; refine hK _ ?_; clear hK K)
        refine mixk_load ⟨ba, oa + i, none⟩ _ rfl (by kernel_rfl) rfl rfl (fun w1 h1 => run_load_plain Tryz.underlying9 rfl (cell_ext Q1.out ((drewE wr).trans h1))) ?_
        simp only [Act.put, List.setIfInBounds_toArray, List.set_cons_zero, List.set_cons_succ]
        iterate 3 (refine mixk_pure _ rfl (by kernel_rfl) rfl rfl (fun K hK => ?_); go_big_quiet_op; refine hK _ ?_; clear hK K)
        refine mixk_load ⟨ba', oa' + i, none⟩ _ rfl (by kernel_rfl) rfl rfl (fun w1 h1 => run_load_plain Tryz.underlying9 rfl (cell_ext Q2.out ((drewE wr).trans h1))) ?_
        simp only [Act.put, List.setIfInBounds_toArray, List.set_cons_zero, List.set_cons_succ]
        iterate 1 (refine mixk_pure _ rfl (by kernel_rfl) rfl rfl (fun K hK => ?_); go_big_quiet_op; refine hK _ ?_; clear hK K)
        refine mixk_end (by kernel_rfl) (fun w3 he => ?_)
        have HE3 := Lib.hid (HE.out.trans ((drewE wr).trans he))
        clear he HE Q1 Q2
        by_cases hxy : x = y
        · subst hxy
          have hne : (!x.toList == x.toList) = false := by simp
          rw [hne]
          clear hne
          have HT := Lib.hid (show l.take (i + 1) = m.take (i + 1) by rw [List.take_add_one, List.take_add_one, HX.out, HY.out, HTK.out])
          go_wp2_with fail
          go_roundw
          case rel => exact ⟨i + 1, by omega, by go_num, HT.out, HE3.out⟩
          case measure => simp [intOf]; omega
        · have hne : (!x.toList == y.toList) = true := by
            have : ¬ x.toList = y.toList := fun e => hxy (toList_inj e)
            simpa using this
          rw [hne]
          clear hne
          have HN := Lib.hid (show decide (l = m) = false from decide_eq_false (fun e => by
            have h1 := HX.out; rw [e, HY.out] at h1; exact hxy (Option.some.inj h1).symm))
          go_wp2_with fail
          go_ret
          exact ⟨by rw [HN.out]; rfl, HE3.out⟩
      · have hie : i = n := by omega
        have HD := Lib.hid (show decide (l = m) = true from decide_eq_true (by
          have h1 := HTK.out
          rw [hie, List.take_of_length_le (by rw [← HNL.out]; exact Nat.le_refl _), List.take_of_length_le (by rw [HML.out]; exact Nat.le_refl _)] at h1
          exact h1))
        go_wp2_with fail
        go_ret
        exact ⟨by rw [HD.out]; rfl, HE.out⟩
  · have HL := Lib.hid (show decide (l = m) = false from decide_eq_false (fun e => hl (by rw [e])))
    have hb : ((l.length : Int) == (m.length : Int)) = false := by simp; omega
    have hb2 : ¬ (l.length : Int) = (m.length : Int) := by omega
    rw [HL.out]
    go_enter Tryz.func35, Tryz.ntmps35
    go_wp2_with fail
    go_ret
    exact ⟨rfl, ExtR w⟩
end
end Go.Proofs.YtneojlgbcaejmaaGreatDoor
/- law 06: Apart. -/
namespace Go.Proofs.YtneojlgbcaejmaaGreatDoor
section
open Go Go.RowKit
set_option linter.unusedSimpArgs false
set_option linter.unusedVariables false
attribute [local go_sem] Oper.semAt_some
def InjL (l : List ByteArray) : Prop := ∀ x ∈ l, ∀ y ∈ l, shaB x = shaB y → x = y
theorem InjL.step {L : List ByteArray} {i : Nat} {t : ByteArray} (h : InjL (L.take i)) (ht : L[i]? = some t) (hs : ∀ x ∈ L.take i, shaB x = shaB t → x = t) : InjL (L.take (i + 1)) := by
  intro x hx y hy e
  rw [List.take_add_one, ht] at hx hy
  rcases List.mem_append.1 hx with h1 | h1 <;> rcases List.mem_append.1 hy with h2 | h2
  · exact h x h1 y h2 e
  · simp at h2; subst h2; exact hs x h1 e
  · simp at h1; subst h1; exact (hs y h2 e.symm).symm
  · simp at h1 h2; rw [h1, h2]
def ApR1 (w : World) (L : List ByteArray) (hv iv : Value) (W : World) : Prop := ∃ i : Nat, i ≤ L.length ∧ iv = .int .i64 i ∧ SRow w W hv i ((L.take i).map shaB) ∧ InjL (L.take i)
def ApR2 (w4 : World) (L : List ByteArray) (t : ByteArray) (i : Nat) (kv : Value) (W : World) : Prop := ∃ k : Nat, k ≤ i ∧ kv = .int .i64 k ∧ Ext w4 W ∧ ∀ x ∈ L.take k, shaB x = shaB t → x = t
def ApP (L : List ByteArray) (w : World) (e : Ending) (w' : World) : Prop := ∃ b, e = .returned (.bool b) ∧ (b = true ↔ InjL L) ∧ Ext w w'
set_option maxRecDepth 100000 in
set_option maxHeartbeats 8000000 in
theorem apart_c (w : World) (hc : Cubes w) (v : Value) (L : List ByteArray) (hv : RdS w v L) (hl : L.length ≤ 1000000) : Calls Tryz.prog 28 #[v] w (ApP L w) := by
  obtain ⟨a, c, rfl, _⟩ := hv.slice
  have HV := Lib.hid hv
  have HC := Lib.hid hc
  clear hv hc
  go_enter Tryz.func28, Tryz.ntmps28
  go_wp2_with fail
  go_loopw [3, 4] (fun hv iv wr => ApR1 w L hv iv wr) (fun _ iv _ => L.length - (intOf iv).toNat)
  case atStart => exact ⟨0, Nat.zero_le _, rfl, ORow.nil _ _ (ExtR w), fun x hx => by cases hx⟩
  case round =>
    obtain ⟨i, hi, rfl, hR, hI⟩ := hrel
    obtain ⟨ah, ch, rfl⟩ := hR.sl
    have HR := Lib.hid hR
    have HI := Lib.hid hI
    clear hR hI
    by_cases hlt : i < L.length
    · have b1 : (i : Int) < (L.length : Int) := by omega
      obtain ⟨t, ht⟩ : ∃ t, L[i]? = some t := ⟨_, List.getElem?_eq_getElem hlt⟩
      obtain ⟨ax, cx, hh, hcell⟩ := HV.out.slice
      obtain ⟨ba, oa, hao, hqa⟩ := hcell i t ht
      subst hao
      cases hh
      have q1 := cell_ext hqa HR.out.ext
      have HT := Lib.hid ht
      have HQT := Lib.hid hqa
      have HCL := Lib.hid (show ∀ (j : Nat) x, L[j]? = some x → w.cell? ⟨ba, oa + j, none⟩ = some (.string x) from fun j x hx => by
        obtain ⟨b', o', e, h⟩ := hcell j x hx
        cases e; exact h)
      clear hcell hqa ht
      go_wp2_with fail
      refine (of_t _ _ [t] (by simp) (rds_lit wr [t] 9) (HC.out.ext (HR.out.ext.alloc _))).mono ?_
      rintro e w4 ⟨rfl, hE⟩
      rw [catB_one]
      have hx4 := ((ExtR wr).alloc (.cells #[.string t] 9)).trans hE
      have HR4 := Lib.hid (HR.out.mono hx4)
      have HX4 := Lib.hid (HR.out.ext.trans hx4)
      obtain ⟨sh, hsh⟩ : ∃ sh, sh = shaB t := ⟨_, rfl⟩
      have HSH := Lib.hid hsh
      rw [← hsh]
      clear hE hx4 hsh q1 HR
      go_wp2_with fail
      go_loopw [6] (fun kv wr2 => ApR2 w4 L t i kv wr2) (fun kv _ => i - (intOf kv).toNat)
      case atStart => exact ⟨0, Nat.zero_le _, rfl, ExtR w4, fun x hx => by cases hx⟩
      case round =>
        obtain ⟨k, hk, rfl, hE, hs⟩ := hrel
        have HE := Lib.hid hE
        have HS := Lib.hid hs
        clear hE hs
        by_cases hlt2 : k < i
        · have b2 : (k : Int) < (i : Int) := by omega
          have b3 : (k : Int) < (L.length : Int) := by omega
          obtain ⟨x, hx⟩ : ∃ x, L[k]? = some x := ⟨_, List.getElem?_eq_getElem (by omega)⟩
          have hxm : ((L.take i).map shaB)[k]? = some (shaB x) := by rw [List.getElem?_map, List.getElem?_take, if_pos hlt2, hx]; rfl
          have hrd := own_rd HR4.out.own
          have hq2 : ∃ bh oh, ah = some ⟨bh, oh, none⟩ ∧ w4.cell? ⟨bh, oh + k, none⟩ = some (.string (shaB x)) := by
            rcases hrd with ⟨_, _, _, h0⟩ | ⟨bq, oq, cq, hh, _, _, hcell⟩
            · rw [h0] at hxm; cases hxm
            · exact ⟨bq, oq, (Value.slice.inj hh).1, hcell k _ hxm⟩
          obtain ⟨bh, oh, rfl, hq2⟩ := hq2
          obtain ⟨sx, hsx⟩ : ∃ sx, sx = shaB x := ⟨_, rfl⟩
          rw [← hsx] at hq2
          have HSX := Lib.hid hsx
          have Q1 := Lib.hid (cell_ext hq2 HE.out)
          have Q2 := Lib.hid (cell_ext (HCL.out k x hx) (HX4.out.trans HE.out))
          have Q3 := Lib.hid (cell_ext HQT.out (HX4.out.trans HE.out))
          have HX := Lib.hid hx
          clear hx hxm hrd hq2 hsx
          go_wp2_with fail
          refine wp_region_mixK [0,1,2,3,4,5,6,7,8,9,10,11,12,13,14,15,16] Ext ExtR ExtT (by kernel_rfl) (by kernel_rfl) (by kernel_rfl) ?_
          iterate 3 (refine mixk_pure _ rfl (by kernel_rfl) rfl rfl (fun K hK => ?_); go_big_quiet_op; refine hK _ ?_; clear hK K)
          refine mixk_load ⟨bh, oh + k, none⟩ _ rfl (by kernel_rfl) rfl rfl (fun w1 h1 => run_load_plain Tryz.underlying9 rfl (cell_ext Q1.out ((drewE _).trans h1))) ?_
          simp only [Act.put, List.setIfInBounds_toArray, List.set_cons_zero, List.set_cons_succ]
          iterate 3 (refine mixk_pure _ rfl (by kernel_rfl) rfl rfl (fun K hK => ?_); go_big_quiet_op; refine hK _ ?_; clear hK K)
          cases hq : (sx.toList == sh.toList) with
          | false =>
            have HN := Lib.hid (show shaB x = shaB t → x = t from fun e => by
              rw [← HSX.out, ← HSH.out] at e
              rw [e] at hq; simp at hq)
            clear hq
            iterate 9 (refine mixk_skip _ rfl (by kernel_rfl) rfl ?_; simp only [Act.put, List.setIfInBounds_toArray, List.set_cons_zero, List.set_cons_succ])
            iterate 1 (refine mixk_pure _ rfl (by kernel_rfl) rfl rfl (fun K hK => ?_); go_big_quiet_op; refine hK _ ?_; clear hK K)
            refine mixk_end (by kernel_rfl) (fun w5 he => ?_)
            have HE5 := Lib.hid (HE.out.trans ((drewE _).trans he))
            have HS5 := Lib.hid (show ∀ z ∈ L.take (k + 1), shaB z = shaB t → z = t from fun z hz e => by
              rw [List.take_add_one, HX.out] at hz
              rcases List.mem_append.1 hz with h1 | h1
              · exact HS.out z h1 e
              · simp at h1; subst h1; exact HN.out e)
            clear he Q1 Q2 Q3 HE HS
            go_wp2_with fail
            go_roundw
            case rel => exact ⟨k + 1, by omega, by go_num, HE5.out, HS5.out⟩
            case measure => simp [intOf]; omega
          | true =>
            have HSQ := Lib.hid (show shaB x = shaB t by rw [← HSX.out, ← HSH.out]; exact toList_inj (by simpa using hq))
            clear hq
            iterate 3 (refine mixk_pure _ rfl (by kernel_rfl) rfl rfl (fun K hK => ?_); go_big_quiet_op; refine hK _ ?_; clear hK K)
            refine mixk_load ⟨ba, oa + k, none⟩ _ rfl (by kernel_rfl) rfl rfl (fun w1 h1 => run_load_plain Tryz.underlying9 rfl (cell_ext Q2.out ((drewE _).trans h1))) ?_
            simp only [Act.put, List.setIfInBounds_toArray, List.set_cons_zero, List.set_cons_succ]
            iterate 3 (refine mixk_pure _ rfl (by kernel_rfl) rfl rfl (fun K hK => ?_); go_big_quiet_op; refine hK _ ?_; clear hK K)
            refine mixk_load ⟨ba, oa + i, none⟩ _ rfl (by kernel_rfl) rfl rfl (fun w1 h1 => run_load_plain Tryz.underlying9 rfl (cell_ext Q3.out ((drewE _).trans h1))) ?_
            simp only [Act.put, List.setIfInBounds_toArray, List.set_cons_zero, List.set_cons_succ]
            iterate 1 (refine mixk_pure _ rfl (by kernel_rfl) rfl rfl (fun K hK => ?_); go_big_quiet_op; refine hK _ ?_; clear hK K)
            cases hq2 : (x.toList == t.toList) with
            | true =>
              have HN := Lib.hid (show x = t from toList_inj (by simpa using hq2))
              have hb : (!true) = false := rfl
              clear hq2
              rw [hb]
              iterate 1 (refine mixk_pure _ rfl (by kernel_rfl) rfl rfl (fun K hK => ?_); go_big_quiet_op; refine hK _ ?_; clear hK K)
              refine mixk_end (by kernel_rfl) (fun w5 he => ?_)
              have HE5 := Lib.hid (HE.out.trans ((drewE _).trans he))
              have HS5 := Lib.hid (show ∀ z ∈ L.take (k + 1), shaB z = shaB t → z = t from fun z hz e => by
                rw [List.take_add_one, HX.out] at hz
                rcases List.mem_append.1 hz with h1 | h1
                · exact HS.out z h1 e
                · simp at h1; subst h1; exact HN.out)
              clear he Q1 Q2 Q3 HE HS hb
              go_wp2_with fail
              go_roundw
              case rel => exact ⟨k + 1, by omega, by go_num, HE5.out, HS5.out⟩
              case measure => simp [intOf]; omega
            | false =>
              have hb : (!false) = true := rfl
              have HNE := Lib.hid (show ¬ InjL L from fun h => by
                have := h x (List.mem_of_getElem? HX.out) t (List.mem_of_getElem? HT.out) HSQ.out
                rw [this] at hq2; simp at hq2)
              clear hq2
              rw [hb]
              iterate 1 (refine mixk_pure _ rfl (by kernel_rfl) rfl rfl (fun K hK => ?_); go_big_quiet_op; refine hK _ ?_; clear hK K)
              refine mixk_end (by kernel_rfl) (fun w5 he => ?_)
              have HE5 := Lib.hid (HE.out.trans ((drewE _).trans he))
              clear he Q1 Q2 Q3 HE HS hb
              go_wp2_with fail
              go_ret
              exact ⟨false, rfl, ⟨fun e => (by cases e), fun h => absurd h HNE.out⟩, HX4.out.trans HE5.out⟩
        · have hki : k = i := by omega
          subst hki
          have HIS := Lib.hid (HI.out.step HT.out HS.out)
          have HRR := Lib.hid (HR4.out.mono HE.out)
          have HMS := Lib.hid (show (L.take (k + 1)).map shaB = (L.take k).map shaB ++ [sh] by rw [List.take_add_one, HT.out, List.map_append, HSH.out]; rfl)
          have hm1 : k + 1 ≤ maxLen := by unfold maxLen; omega
          have hm2 : (k + 1) * 16 ≤ 140737488355328 := by omega
          clear HS HI HE HR4
          go_wp2_with (at_builtin; refine wpList_app Tryz.sStrs (HRR.out.mono ((ExtR wr).alloc _)) (.tmp 41) (.tmp 43) rfl rfl rfl (news_blk (Blk.new wr _)) (news := [.string sh]) (by intro u hu; simp at hu; rcases hu with rfl; rfl) rfl rfl hm1 hm2 ?_; intro v' w' r1 r2 r3)
          have r1' : SRow w w' v' (k + 1) ((L.take (k + 1)).map shaB) := by unfold SRow; rw [HMS.out, List.map_append]; exact r1
          obtain ⟨ah', ch', rfl⟩ := r1'.sl
          have HR9 := Lib.hid r1'
          clear r1 r2 r3 r1'
          go_wp2_with fail
          go_roundw
          case rel => exact ⟨k + 1, by omega, by go_num, HR9.out, HIS.out⟩
          case measure => simp [intOf]; omega
    · have hie : i = L.length := by omega
      have HIL := Lib.hid (show InjL L by have := HI.out; rwa [hie, List.take_length] at this)
      clear HI
      go_wp2_with fail
      go_ret
      exact ⟨true, rfl, ⟨fun _ => HIL.out, fun _ => rfl⟩, HR.out.ext⟩
end
end Go.Proofs.YtneojlgbcaejmaaGreatDoor
/- store: Add of one leaf, what it comes to. -/
namespace Go.Proofs.YtneojlgbcaejmaaGreatDoor
section
open Go Go.RowKit
set_option linter.unusedSimpArgs false
set_option linter.unusedVariables false
theorem given_one {L : List ByteArray} {G : List Nd5} {t : ByteArray} (hG : G.map kvI = readG L) (hL : ∀ x ∈ L, x = t) (h0 : hashesT (nodeOf t) = []) (x : ByteArray) : refsO G x = [] := by
  unfold refsO
  split
  · rename_i y hy
    obtain ⟨t', ht', _, e⟩ := given_is hG (atL_mem hy).1
    rw [e, hL t' ht']; exact h0
  · rfl
theorem path_leaf {S G : List Nd5} {L : List ByteArray} {t : ByteArray} {M : List ByteArray} {i : Nat} (hG : G.map kvI = readG L) (hL : ∀ x ∈ L, x = t) (h0 : hashesT (nodeOf t) = []) (hP : Path S G (shaB t) M i) : M = [shaB t] := by
  have e : ∀ l : List ByteArray, l.flatMap (refsO G) = [] := fun l => by
    rw [List.flatMap_eq_nil_iff]; exact fun x _ => given_one hG hL h0 x
  have := hP.is
  rw [e] at this
  exact this
theorem frK_one (S : List Nd5) (r : ByteArray) : frK S [r] = if (atL S r.data.toList).isNone then [r] else [] := by
  have := frK_step S [] r
  rw [List.nil_append] at this
  rw [this, if_neg (by show ¬ memB [] r = true; simp [memB])]
  split <;> rfl
/-- The leaf is put: one item, held once. -/
theorem leaf_new {G : List Nd5} {L : List ByteArray} {t : ByteArray} (hG : G.map kvI = readG L) (hL : ∀ x ∈ L, x = t) (h0 : hashesT (nodeOf t) = []) (hm : t ∈ L) :
    ∃ b, b ∈ G.map (·.2.1) ∧ bumpH (shaB t).data.toList (bumps ([shaB t].flatMap (refsO G)) ([] ++ picks G [shaB t])) = [((shaB t).data.toList, b, ⟨t, [], 0, 1⟩)] := by
  obtain ⟨y, hy⟩ := Option.isSome_iff_exists.1 (given_has hG hm)
  obtain ⟨t', ht', e1, e2⟩ := given_is hG (atL_mem hy).1
  have ht : t' = t := hL t' ht'
  subst ht
  refine ⟨y.2.1, List.mem_map.2 ⟨y, (atL_mem hy).1, rfl⟩, ?_⟩
  have e3 : [shaB t'].flatMap (refsO G) = [] := by simp [given_one hG hL h0]
  have e4 : picks G [shaB t'] = [y] := by unfold picks; simp [hy]
  rw [e3, e4]
  show bumpH (shaB t').data.toList [y] = _
  unfold bumpH
  rw [List.map_cons, List.map_nil, if_pos (atL_mem hy).2, e2, (atL_mem hy).2]
  unfold itOf putF
  rw [h0]
  rfl
end
end Go.Proofs.YtneojlgbcaejmaaGreatDoor
