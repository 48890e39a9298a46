/- Parts of the proof, one behind the other: OpenI, CurT, WholeP. Each is under no condition but those that it states. -/
import Derived.Test.YtneojlgbcaejmaaGreatDoorBa42
import Derived.Test.YtneojlgbcaejmaaGreatDoorBa39
import Derived.Test.YtneojlgbcaejmaaGreatDoorBa28
import Derived.Test.YtneojlgbcaejmaaGreatDoorBa41
import Derived.WalkKit
import Derived.ProofKit
import Derived.OpenShut
import Derived.Lib.SmallJoins
import Derived.Deep.DeepHandedRow
import Derived.Lay
import Derived.Carry
import Derived.ChangeMaps5
/- The arguments of the laws: rows of numbers. -/
namespace Go.Proofs.YtneojlgbcaejmaaGreatDoor
section
open Go Go.ChangeShapes Go.WideShapes Go.ChangeAt Go.RowKit Go.Deep
set_option linter.unusedSimpArgs false
set_option linter.unusedVariables false
/-- A row of numbers that is read. -/
def RdI (w : World) (v : Value) (xs : List Int) : Prop :=
  (∃ a c, v = .slice a 0 c ∧ xs = []) ∨ ∃ b o c, v = .slice (some ⟨b, o, none⟩) xs.length c ∧ ∀ (j : Nat) x, xs[j]? = some x → w.cell? ⟨b, o + j, none⟩ = some (.int .i64 x)
theorem RdI.ext {w w' : World} {v : Value} {xs : List Int} (h : RdI w v xs) (k : Ext w w') : RdI w' v xs := by
  rcases h with h | ⟨b, o, c, h1, h4⟩
  · exact .inl h
  · exact .inr ⟨b, o, c, h1, fun j x hx => cell_ext (h4 j x hx) k⟩
theorem RdI.sl {w : World} {v : Value} {xs : List Int} (h : RdI w v xs) : ∃ a c, v = .slice a xs.length c := by
  rcases h with ⟨a, c, h1, h2⟩ | ⟨b, o, c, h1, _⟩
  · exact ⟨a, c, by rw [h1, h2]; rfl⟩
  · exact ⟨_, c, h1⟩
theorem Tryz.cellsInt : Tryz.prog.cellsOf 3 = 1 := by kernel_rfl
section
variable {H : Type} {enc : TypeId × Value → H} {w : World} {base : Nat} {spare : Nat → Bool} {held : Bool}
set_option maxRecDepth 100000 in
theorem open_ints {v : Value} {d : DataW H} {p : List MemPlace} (hv : ∃ a n c, v = .slice a n c) (h : DataW.Trod enc Tryz.prog w 0 spare held 49 v d p) :
    ∃ l : List Int, RdI w v l ∧ l.length ≤ 9223372036854775807 := by
  obtain ⟨a0, n0, c0, rfl⟩ := hv
  obtain ⟨fuel, hf⟩ := h
  rcases open_slice Tryz.underlying49 hf with ⟨hcs, _⟩ | ⟨a, len, cap, m, n, D, Pl, hcs, _, hl, hm, hmm, _, hi⟩
  · simp only [Value.cells] at hcs
    have hcs' : Value.slice a0 n0 c0 = .slice none 0 0 := by simpa using hcs
    rw [hcs']
    exact ⟨[], .inl ⟨none, 0, rfl, rfl⟩, by simp⟩
  · have hcs' : Value.slice a0 n0 c0 = .slice (some a) len cap := by simpa [Value.cells] using hcs
    rw [hcs']
    have hlm : len ≤ m := by rw [hmm]; split <;> omega
    obtain ⟨l, hll, hlp⟩ := list_of len (0 : Int) (fun i x => w.cell? ((a.add (i * 1)).add 0) = some (.int .i64 x)) (fun i hi' => by
      obtain ⟨cs', h1, h2⟩ := hi i (by omega)
      rw [Tryz.cellsInt] at h1
      obtain ⟨_, hcl, hg⟩ := World.cells?_some h1
      obtain ⟨x, q0, _, _⟩ := DataW.trod_int Tryz.underlying3 h2
      subst q0
      exact ⟨x, hg 0 (by omega)⟩)
    have hlen : l.length ≤ 9223372036854775807 := by have := maxLen_big; omega
    refine ⟨l, ?_, hlen⟩
    by_cases h0 : len = 0
    · subst h0
      exact .inl ⟨some a, cap, rfl, List.eq_nil_of_length_eq_zero hll⟩
    · obtain ⟨p0, hp0⟩ : ∃ p, l[0]? = some p := ⟨_, List.getElem?_eq_getElem (by omega)⟩
      have hspot : a.spot = none := by simpa [Addr.add] using World.cell?_spot (hlp 0 p0 hp0)
      obtain ⟨b, o, sp⟩ := a
      dsimp only at hspot
      subst hspot
      refine .inr ⟨b, o, cap, by rw [hll], fun j x hx => ?_⟩
      have q1 := hlp j x hx
      rw [Go.Deep.add_add, Go.WideShapes.add_plain, Nat.mul_one] at q1
      exact q1
end
end
end Go.Proofs.YtneojlgbcaejmaaGreatDoor
/- law 09: CursorWhole, its walk. -/
namespace Go.Proofs.YtneojlgbcaejmaaGreatDoor
section
open Go Go.RowKit
set_option linter.unusedSimpArgs false
set_option linter.unusedVariables false
attribute [local go_sem] Oper.semAt_some
/-- append of a row of one's own, though it be empty. -/
theorem wpList_appN {ops : Array Oper} {rest : List Oper} {d : Option Tmp} {ty : TypeId} {pos : String} {af : Array Edge} {a : Act} {W w0 w : World} {Q : Exit → Act → World → Prop} {s x : Operand} {v pv : Value} {n N : Nat} {xs : List Value} {ys : List Pair}
    (hR : ORow 45 2 w0 w v n xs) (hP : NRow W w pv ys) (hN : n + ys.length = N) (hs : a.eval s = v) (hx : a.eval x = pv) (h63 : N ≤ 1000000)
    (h : ∀ v' w', ORow 45 2 w0 w' v' N (xs ++ cellsP ys) → Keeps (fun b => v.ownBlock = some b) w w' → (v'.ownBlock = v.ownBlock ∨ ∀ b, v'.ownBlock = some b → w.heap.size ≤ b) → wpList Tryz.prog ops Q rest (a.put d v') w') :
    wpList Tryz.prog ops Q (⟨d, .call { callee := .builtin .append, args := #[s, x], argTypes := #[22, 22] }, ty, pos, af, none⟩ :: rest) a w := by
  subst hN
  obtain ⟨h1, ⟨rfl, h3⟩ | ⟨g, cap, cur, rfl, h3, h4, h5, h6, h7⟩⟩ := hP.own
  · have hys : ys = [] := List.eq_nil_of_length_eq_zero h3
    subst hys
    obtain ⟨ad, c, rfl⟩ := hR.sl
    have hle : n ≤ c := by
      obtain ⟨_, ⟨e, e2⟩ | ⟨g, cap, cur, e, _, _, k5, _⟩⟩ := hR.own
      · omega
      · obtain ⟨_, _, e⟩ := Value.slice.inj e; omega
    refine wpList_app0 Tryz.sEnts hs hx hle (h _ _ ?_ (Keeps.refl _ _) (.inl rfl))
    simpa [cellsP] using hR
  · exact wpList_app Tryz.sEnts hR s x rfl hs hx (fun j u hj => hP.own.cells (g := g) rfl j u hj) (cellsP_one _) (by rw [cellsP_len]) rfl (by unfold maxLen; omega) (by omega) h
structure WhR (W : World) (l : List Pair) (ls : List Int) (av fv iv : Value) (wr : World) (i k : Nat) (fr : ByteArray) : Prop where
  le : i ≤ ls.length
  at' : iv = .int .i64 ((i : Nat) : Int)
  vfr : fv = .string fr
  size : fr.size ≤ 50
  from' : fromL fr l = l.drop k
  pos : k ≤ l.length
  ext : Ext W wr
  row : NRow W wr av (l.take k)
def WhRel (W : World) (l : List Pair) (ls : List Int) (av fv iv : Value) (wr : World) : Prop := ∃ i k fr, WhR W l ls av fv iv wr i k fr
theorem from_nil (l : List Pair) : fromL ⟨#[]⟩ l = l.drop 0 := by
  unfold fromL
  rw [List.drop_zero, List.filter_eq_self]
  intro p _
  have : ¬ lessB p.1 ⟨#[]⟩ = true := fun h => not_lt_nil _ ((lessB_iff _ _).1 h)
  simpa using this
theorem RdP.whole {w : World} {a : Option Addr} {n c : Nat} {xs : List Pair} (h : RdP w (.slice a n c) xs) {k : Nat} (hk : k ≤ xs.length) : RdP w (.slice a k c) (xs.take k) ∧ xs.length ≤ n := by
  rcases h with ⟨a', c', h1, rfl⟩ | ⟨b, o, c', h1, h2, h3, h4⟩
  · obtain ⟨rfl, rfl, rfl⟩ := Value.slice.inj h1
    obtain rfl : k = 0 := by simpa using hk
    exact ⟨.inl ⟨a, c, rfl, by simp⟩, by simp⟩
  · obtain ⟨rfl, rfl, rfl⟩ := Value.slice.inj h1
    have hl : (xs.take k).length = k := by rw [List.length_take]; omega
    refine ⟨.inr ⟨b, o, c, by rw [hl], h2, by omega, fun j x hx => h4 j x ?_⟩, Nat.le_refl _⟩
    rw [List.getElem?_take] at hx
    split at hx
    · exact hx
    · cases hx
set_option maxRecDepth 100000 in
set_option maxHeartbeats 8000000 in
theorem whole_c (w : World) (hc : Cubes w) (v : Value) (l : List Pair) (hv : RdP w v l) (hn : l.length ≤ 9223372036854775807) (hs : SmallP l) (u : Value) (ls : List Int) (hu : RdI w u ls) (hln : ls.length ≤ 9223372036854775807) :
    Calls Tryz.prog 5 #[v, u] w fun e w' => e = .returned (.bool true) ∧ Ext w w' := by
  have HC := Lib.hid hc
  have HV := Lib.hid hv
  have HS := Lib.hid hs
  have HN := Lib.hid hn
  have HU := Lib.hid hu
  obtain ⟨ad, c, hsl⟩ := hv.sl
  subst hsl
  obtain ⟨bd, d, hsl⟩ := hu.sl
  subst hsl
  clear hc hv hs hn hu
  go_enter Tryz.func5, Tryz.ntmps5
  go_wp2_with fail
  refine (works9_c w HC.out).mono ?_
  rintro e w1 ⟨rfl, hE⟩
  have HE1 := Lib.hid hE
  clear hE
  go_wp2_with fail
  refine (hold08_c w1 (HC.out.ext HE1.out) _ l (HV.out.ext HE1.out) HN.out HS.out).mono ?_
  rintro e w2 (⟨rfl, hE, hno⟩ | ⟨s, bm, S, rfl, hE, hS, hM, hk, _, _⟩)
  · have HE2 := Lib.hid (HE1.out.trans hE)
    clear hE hno
    go_wp2_with fail
    go_ret
    exact ⟨rfl, HE2.out⟩
  have HE2 := Lib.hid (HE1.out.trans hE)
  have HS2 := Lib.hid hS
  have HM := Lib.hid hM
  obtain ⟨rt, hrt⟩ : ∃ rt, rt = shaB (trieT l).text := ⟨_, rfl⟩
  have HRT := Lib.hid hrt
  rw [← hrt]
  have hL40 := (check_ok hM.ok).len
  clear hE hS hM hk hrt
  by_cases h60 : ls.length ≤ 60
  case neg =>
    have b0 : (60 : Int) < (ls.length : Int) := by omega
    go_wp2_with fail
    go_ret
    exact ⟨rfl, HE2.out⟩
  have b0 : ¬ (60 : Int) < (ls.length : Int) := by omega
  go_wp2_with fail
  go_loopw [8, 9, 10] (fun av fv iv wr => WhRel w2 l ls av fv iv wr) (fun av fv iv _ => ls.length - (intOf iv).toNat)
  case atStart => exact ⟨0, 0, ⟨#[]⟩, by omega, rfl, rfl, by decide, from_nil l, by omega, ExtR w2, ⟨World.ownsRow_nil _ _ _ _, fun b hb => by cases hb⟩⟩
  case round =>
    obtain ⟨i, k, fr, hR⟩ := hrel
    obtain rfl := hR.at'
    obtain rfl := hR.vfr
    have hi := hR.le
    have HR := Lib.hid hR
    obtain ⟨av, ac, hsl⟩ := row_slice hR.row.own
    have hlk : (l.take k).length = k := by rw [List.length_take]; have := hR.pos; omega
    rw [hlk] at hsl
    subst hsl
    have HLK := Lib.hid hlk
    clear hR hlk
    by_cases hlt : i < ls.length
    · have b1 : (i : Int) < (ls.length : Int) := by omega
      rcases HU.out with ⟨_, _, _, h0⟩ | ⟨ib, io, c1, hh, hcell⟩
      · rw [h0] at hlt; cases hlt
      cases hh
      obtain ⟨x, hx⟩ : ∃ x, ls[i]? = some x := ⟨_, List.getElem?_eq_getElem hlt⟩
      have QI := Lib.hid (cell_ext (hcell i x hx) HE2.out)
      have q1 := cell_ext QI.out HR.out.ext
      clear hcell hx
      go_wp2_with fail
      obtain ⟨D, hDd⟩ : ∃ D, D = l.drop k := ⟨_, rfl⟩
      have HD := Lib.hid hDd
      have hpg := page_c wr s bm 2000 S fr l x (by have := HR.out.size; omega) HM.out (HS2.out.ext HR.out.ext)
      rw [← HRT.out, HR.out.from', ← hDd] at hpg
      refine hpg.mono ?_
      rintro e w3 ⟨hE, hP⟩
      have HE3 := Lib.hid hE
      have q1 := cell_ext QI.out (HR.out.ext.trans hE)
      clear hpg hE hDd
      by_cases hv1 : 1 ≤ x
      case neg =>
        rw [if_neg (by omega)] at hP
        subst hP
        go_wp2_with fail
        go_roundw
        case rel => exact ⟨i + 1, k, fr, by omega, by go_num, rfl, HR.out.size, HR.out.from', HR.out.pos, HR.out.ext.trans HE3.out, HR.out.row.ext HE3.out⟩
        case measure => simp [intOf]; omega
      by_cases hv2 : x ≤ 8
      case neg =>
        rw [if_neg (by omega)] at hP
        subst hP
        go_wp2_with fail
        go_roundw
        case rel => exact ⟨i + 1, k, fr, by omega, by go_num, rfl, HR.out.size, HR.out.from', HR.out.pos, HR.out.ext.trans HE3.out, HR.out.row.ext HE3.out⟩
        case measure => simp [intOf]; omega
      rw [if_pos ⟨hv1, hv2⟩] at hP
      obtain ⟨n, rfl⟩ : ∃ n : Nat, x = (n : Int) := ⟨x.toNat, by omega⟩
      rw [Int.toNat_natCast] at hP
      obtain ⟨pv, rfl, hP⟩ := hP
      have HP := Lib.hid hP
      have HAL := Lib.hid (show (l.take k) ++ D.take n = l.take (k + n) by rw [HD.out, List.take_add])
      have hn18 : 1 ≤ n ∧ n ≤ 8 := by omega
      obtain ⟨m, hmm⟩ : ∃ m, m = (D.take n).length := ⟨_, rfl⟩
      have hm8 : m ≤ 8 := by have := Nat.min_le_left n D.length; rw [hmm, List.length_take]; omega
      have hkl := HR.out.pos
      have hr3 := HR.out.row.ext HE3.out
      have HOR := Lib.hid (show ORow 45 2 _ w3 (.slice av k ac) k (cellsP (l.take k)) from by have h := ORow.any hr3.own; rw [HLK.out] at h; exact h)
      have HOLD := Lib.hid (show ∀ b, (Value.slice av k ac).ownBlock = some b → w2.heap.size ≤ b ∧ b < wr.heap.size from fun b hb => ⟨HR.out.row.new b hb, own_lt HR.out.row.own hb⟩)
      obtain ⟨N, hNN⟩ : ∃ N, k + (D.take n).length = N := ⟨_, rfl⟩
      have hm1 : N ≤ 1000000 := by rw [← hNN, ← hmm]; omega
      have HNN := Lib.hid hNN
      have hnew : ∀ v' w', ORow 45 2 (bare w3) w' v' N (cellsP (l.take k) ++ cellsP (D.take n)) → Keeps (fun b => (Value.slice av k ac).ownBlock = some b) w3 w' → (v'.ownBlock = (Value.slice av k ac).ownBlock ∨ ∀ b, v'.ownBlock = some b → w3.heap.size ≤ b) → Ext w2 w' ∧ NRow w2 w' v' (l.take (k + n)) := by
        intro v' w' r1 r2 r3
        refine ⟨(HR.out.ext.trans HE3.out).trans' r2 (fun b hb e => by have := HOLD.out b e; omega), ?_, fun b hb => ?_⟩
        · have h := r1.own
          rw [← cellsP_append, HAL.out] at h
          have hl : (l.take (k + n)).length = N := by rw [← HAL.out, List.length_append, HLK.out, hNN]
          rw [hl]; exact h
        · rcases r3 with r3 | r3
          · exact (HOLD.out b (r3 ▸ hb)).1
          · have := r3 b hb; have := (HR.out.ext.trans HE3.out).size; omega
      have HNEW := Lib.hid hnew
      clear hnew hr3 hP hNN
      cases hq : D[n]? with
      | none =>
        have hle := List.getElem?_eq_none_iff.1 hq
        have hnx : keyHd (D.drop n) = ⟨#[]⟩ := by rw [List.drop_of_length_le hle]; rfl
        have HFULL := Lib.hid (show l.take (k + n) = l from List.take_of_length_le (by rw [HD.out, List.length_drop] at hle; omega))
        rw [hnx]
        obtain ⟨pa, pc, hpv⟩ := row_slice HP.out.own
        rw [← hmm] at hpv
        subst hpv
        clear hq hnx hle hmm
        go_wp2_with (at_builtin; refine wpList_appN HOR.out HP.out HNN.out rfl rfl hm1 ?_; intro v6 w6 r1 r2 r3; have HN6 := Lib.hid (HNEW.out v6 w6 r1 r2 r3); obtain ⟨ad6, c6, hv6⟩ := r1.sl; subst hv6; clear r1 r2 r3)
        have hrow := HN6.out.2
        rw [HFULL.out] at hrow
        refine (same_c w6 _ _ l l hrow.rd (HV.out.ext (HE2.out.trans HN6.out.1)) (by omega) (by omega)).mono ?_
        rintro e w7 ⟨rfl, hE⟩
        rw [(sameL_iff _ _).2 rfl]
        have HE7 := Lib.hid ((HE2.out.trans HN6.out.1).trans hE)
        clear hE hrow
        go_wp2_with fail
        go_ret
        exact ⟨rfl, HE7.out⟩
      | some q =>
        have hnl := (List.getElem?_eq_some_iff.1 hq).1
        have hnq : keyHd (D.drop n) = q.1 := by rw [keyHd_drop, hq]
        obtain ⟨nx, hnx⟩ : ∃ nx, nx = keyHd (D.drop n) := ⟨_, rfl⟩
        have hmn : m = n := by rw [hmm, List.length_take]; omega
        have hDf : D = fromL fr l := by rw [HD.out, HR.out.from']
        have hqk := key_ne HM.out.ok (by rw [← hDf]; exact hq)
        have hfn := from_drop (check_ok HM.out.ok).rise (by rw [← hDf]; exact hq)
        rw [← hDf, HD.out, List.drop_drop, ← hnq, ← hnx] at hfn
        have HFN := Lib.hid hfn
        rw [← hnq, ← hnx] at hqk
        have HQK := Lib.hid hqk
        have hne : nx.toList.isEmpty = false := by
          rw [Bool.eq_false_iff]; intro h
          rw [List.isEmpty_iff] at h
          have : nx.toList.length = nx.size := by rw [ByteArray.toList_eq]; rfl
          rw [h] at this
          exact hqk.1 this.symm
        obtain ⟨⟨kx, vx⟩, hp⟩ : ∃ p, D[n - 1]? = some p := ⟨_, List.getElem?_eq_getElem (by omega)⟩
        have hltk : lessB kx nx = true := by
          rw [lessB_iff, hnx, hnq]
          have hE : D.Pairwise fun p q => Lt p.l q.l := by rw [hDf]; exact (check_ok HM.out.ok).rise.filter _
          exact pair_get hE (by omega) hp hq
        obtain ⟨c1', c2'⟩ := (cmp3 nx kx).1 hltk
        have hpn : D.take n ≠ [] := fun e => by have h := congrArg List.length e; rw [List.length_take, List.length_nil] at h; omega
        obtain ⟨g, cp, rfl, hp1, hp2, hp3⟩ := HP.out.open hpn
        have HP9 := Lib.hid (show NRow wr w3 (.slice (some ⟨g, 0, none⟩) n cp) (D.take n) from by have h := HP.out; rw [← hmm, hmn] at h; exact h)
        rw [← hmm, hmn]
        have hpt : (D.take n)[n - 1]? = some (kx, vx) := by rw [List.getElem?_take]; rw [if_pos (by omega)]; exact hp
        have e1 := (cellsP_get _ _ _ hpt).1
        have q2 := hp3 _ _ e1
        rw [Addr.add_lit, Nat.zero_add] at q2
        have HQ2 := Lib.hid q2
        have HG := Lib.hid hp1
        rw [← hnx]
        have hne2 : ((n : Int) != (n : Int)) = false := by simp
        obtain ⟨n1, hn1⟩ : ∃ n1, n1 = n - 1 := ⟨_, rfl⟩
        have hn1i : (n : Int) - 1 = (n1 : Int) := by omega
        have hn1l : (n1 : Int) < (n : Int) := by omega
        rw [← hn1] at HQ2
        have HNU := Lib.hid (And.intro hn1 (And.intro hnl hn18))
        clear hq hnq hDf hqk hfn hp hltk hpn hp2 hp3 hpt e1 q2 hp1 hnx hmm hmn hn1 hnl
        clear hm8
        clear m
        go_wp2_with (at_builtin; refine wpList_appN HOR.out HP9.out HNN.out rfl rfl hm1 ?_; intro v6 w6 r1 r2 r3; have HN6 := Lib.hid (HNEW.out v6 w6 r1 r2 r3); have q2 : w6.cell? ⟨g, n1 * 2, none⟩ = some (.string kx) := cell_keeps HQ2.out r2 (fun e => by have h8 : w2.heap.size ≤ g ∧ g < wr.heap.size := HOLD.out g e; have := HG.out; omega); have q1 : w6.cell? ⟨ib, io + i, none⟩ = some (.int .i64 (n : Int)) := cell_ext QI.out HN6.out.1; obtain ⟨ad6, c6, hv6⟩ := r1.sl; subst hv6; clear r1 r2 r3)
        have hpk : k + n ≤ l.length := by
          have h := HNU.out.2.1
          rw [HD.out, List.length_drop] at h; omega
        go_roundw
        case rel => exact ⟨i + 1, k + n, nx, by omega, by go_num, rfl, by have := HQK.out; omega, HFN.out, hpk, HN6.out.1, HN6.out.2⟩
        case measure => simp [intOf]; omega
    · have b1 : ¬ (i : Int) < (ls.length : Int) := by omega
      have hkl := HR.out.pos
      have b2 : (k : Int) ≤ (l.length : Int) := by omega
      obtain ⟨hW1, hW2⟩ := (HV.out.ext (HE2.out.trans HR.out.ext)).whole HR.out.pos
      have hcc : l.length ≤ c := by
        rcases HV.out with ⟨_, _, _, h1⟩ | ⟨b, o, c', h1, h2, h3, h4⟩
        · rw [h1]; exact Nat.zero_le _
        · obtain ⟨_, _, e⟩ := Value.slice.inj h1; omega
      have b3 : (k : Int) ≤ (c : Int) := by omega
      have HW := Lib.hid hW1
      clear hW1 hW2 hcc
      go_wp2_with fail
      refine (same_c wr _ _ (l.take k) (l.take k) HR.out.row.rd HW.out (by rw [HLK.out]; omega) (by rw [HLK.out]; omega)).mono ?_
      rintro e w3 ⟨rfl, hE⟩
      rw [(sameL_iff _ _).2 rfl]
      have HE3 := Lib.hid ((HE2.out.trans HR.out.ext).trans hE)
      clear hE
      go_wp2_with fail
      go_ret
      exact ⟨rfl, HE3.out⟩
end
end Go.Proofs.YtneojlgbcaejmaaGreatDoor
/- CursorWhole, the card: the law is true for every input. -/
namespace Go.Proofs.YtneojlgbcaejmaaGreatDoor
section
open Go Go.ChangeShapes Go.WideShapes Go.ChangeAt Go.RowKit Go.ChangeMaps
set_option linter.unusedSimpArgs false
set_option linter.unusedVariables false
set_option maxRecDepth 100000 in
theorem cursorWhole_contract (H : Type) (enc : TypeId × Value → H) (W : World) (base : Nat) (args : Array Value) (ds gs : List (DataW H)) (before : List MemPlace)
    (hval : ∀ (j : Nat) t v, Tryz.f5.params[j]? = some t → args[j]? = some v → Value.okWide Tryz.prog W .any base t v)
    (hW : DataW.Whole enc Tryz.prog Tryz.f5.params.toList Rows.cursorWholeSpec.vars false W args.toList ds gs before) (hL : laidMetH Tryz.prog Rows.cursorWholeRow.laid W) :
    Calls Tryz.prog 5 args W fun e W' => ∃ v, e = .returned v ∧ Rows.cursorWholeSpec.post enc Tryz.prog Tryz.f5 false true false false W args v W' := by
  have hW' := hW
  obtain ⟨p, q, hA0, hV, rfl, hfz, hnd⟩ := hW
  have hA : DataW.TrodAll enc Tryz.prog W 0 (fun _ => true) true Tryz.f5.params.toList args.toList ds p := hA0
  rw [Tryz.params5] at hA hval
  obtain ⟨v0, v1, d0, d1, p0, p1, rfl, rfl, rfl, h0, h1⟩ := trodAll_two hA
  obtain ⟨rfl, rfl⟩ := trodVars_none hV
  obtain ⟨l0, hl0, hn0, hs0⟩ := open_entries (okWide_slice Tryz.underlying22 (hval 0 22 v0 rfl rfl)) h0
  obtain ⟨l1, hl1, hn1⟩ := open_ints (okWide_slice Tryz.underlying49 (hval 1 49 v1 rfl rfl)) h1
  clear hA0
  simp only [List.append_nil, List.nil_append] at hW'
  have hlt : ∀ x ∈ p0 ++ p1, x.block < W.heap.size := fun x hx => by simpa using hW'.lt x (by simpa using hx)
  refine (whole_c W (cubes_of hL) v0 l0 hl0 hn0 hs0 v1 l1 hl1 hn1).mono fun e W' ⟨he, hE⟩ => ?_
  subst he
  have hb : Below W.heap.size W W' := ⟨hE.os, hE.tape, hE.output, hE.size, fun k hk => hE.block k hk (fun h => h)⟩
  have hres : DataW.TrodAll enc Tryz.prog W' 0 (fun b => decide (b < W.heap.size)) true [22, 49] [v0, v1] [d0, d1] (p0 ++ p1) := by
    simpa using trodAll_mk2 (Below.trod Tryz.laidOutK (by kernel_rfl) (of_decide_eq_true (by kernel_rfl)) h0 hb (fun x hx => hlt x (by simp [hx]))) (Below.trod Tryz.laidOutK (by kernel_rfl) (of_decide_eq_true (by kernel_rfl)) h1 hb (fun x hx => hlt x (by simp [hx])))
  refine ⟨_, rfl, _, _, _, [], p0 ++ p1, [], hW', trodAll_mk1 (shut_bool Tryz.underlying4 _), ?_, rfl, hb.frame _, fun h => by cases h⟩
  exact hres
set_option maxRecDepth 100000 in
theorem cursorWhole_reads (os : Os) {H : Type} (enc : TypeId × Value → H) : ∃ places, DataW.whole enc Tryz.prog ((laidWorld os).forCall (fun _ _ => 0) ⟨#[], #[.slice none 0 0, .slice none 0 0], []⟩).memory Tryz.f5.params.toList Rows.cursorWholeSpec.vars false #[.slice none 0 0, .slice none 0 0].toList 8 = some ([.nil, .nil], [], places) :=
  ⟨[], by kernel_rfl⟩
set_option maxRecDepth 100000 in
theorem cursorWhole_lifted (os : Os) (started : os.Started) (H : Type) (enc : TypeId × Value → H) (F : Stop.Interp) :
    ReturnsInHanded {} Tryz.checked os 5 .any ((OpenSpec.ofChange Rows.cursorWholeSpec).preRow enc Tryz.prog Tryz.f5 Rows.cursorWholeRow.domain false Rows.cursorWholeRow.laid) (((OpenSpec.ofChange Rows.cursorWholeSpec).at F).post enc Tryz.prog Tryz.f5 false true false false) := by
  obtain ⟨places, hx⟩ := cursorWhole_reads os enc
  refine returnsInHanded_of_row (C := Tryz.checked) (s := OpenSpec.ofChange Rows.cursorWholeSpec) Tryz.ownK started (by kernel_rfl) Tryz.func5
    (witness_row_at (enc := enc) (C := Tryz.checked) false (laidWorld os) #[.slice none 0 0, .slice none 0 0] rfl (by kernel_rfl) (by kernel_rfl) (by kernel_rfl)
      (OpenSpec.preRow_of_cond 8 hx (by kernel_rfl) (fun k hk => by cases hk) (by kernel_rfl) (laid_met os _))) ?_
  intro W base args ds gs before hval hW _ _ _ hL _ _
  exact cursorWhole_contract H enc W base args ds gs before hval hW hL
theorem cursorWhole_said : Rows.CursorWholeSaid :=
  OpenClaim.holds_of_cond 5 Tryz.f5 rfl rfl rfl rfl rfl rfl rfl ⟨rfl, rfl, rfl, rfl, rfl⟩ rfl rfl rfl rfl rfl (by kernel_rfl) Tryz.func5 (by kernel_rfl)
    (of_decide_eq_true (by kernel_rfl)) (by unfold Func.isWrapper; first | (rw [if_pos (by decide +kernel)]; kernel_rfl) | (rw [if_neg (by decide +kernel)]; exact ⟨rfl, rfl⟩))
    (fun os started H enc _ F => by rw [OpenClaim.pre_eq_preRow]; exact cursorWhole_lifted os started H enc F)
theorem cursorWholeCard_holds : Rows.CursorWholeCardSaid :=
  Claim7.holds_tied_plain_at .later [] [.handle, .data] true (true, "d2c66192a8206f233295009093e67126f72cb59b0c21e1b9761392474d37febc") true
    cursorWhole_said (fun _ h => by cases h) (by kernel_rfl) (fun _ h => by cases h) cursorWhole_row_tie rfl ⟨rfl, rfl⟩ (by kernel_rfl) rfl
    (fun f fn hf hfn => by
      obtain rfl : f = 5 := Option.some.inj ((show Tryz.prog.funcNamed "guilloche/guillochelaw09.CursorWhole" = some 5 by kernel_rfl).symm.trans hf) |>.symm
      obtain rfl : fn = Tryz.f5 := (Option.some.inj (Tryz.func5.symm.trans hfn)).symm
      exact ⟨by kernel_rfl, fun j t ht => by
        rw [Tryz.params5] at ht
        have hm : t ∈ [22, 49] := by simpa using Array.mem_of_getElem? ht
        have hall : ([22, 49].all fun u => !Tryz.prog.wantsStandIn u) = true := by kernel_rfl
        exact (show Tryz.prog.wantsStandIn t = false by simpa using List.all_eq_true.1 hall t hm)⟩)
    (by kernel_rfl)
end
end Go.Proofs.YtneojlgbcaejmaaGreatDoor
