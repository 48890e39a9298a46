/- Parts of the proof, one behind the other: ActA. Each is under no condition but those that it states. -/
import Derived.Test.YtjogjmffkmfmbaaGreatDoorPc33
/- law 06: acts as an argument; few. -/
namespace Go.Proofs.YtjogjmffkmfmbaaGreatDoor
section
open Go Go.RowKit
set_option linter.unusedSimpArgs false
set_option linter.unusedVariables false
attribute [local go_sem] Oper.semAt_some
structure ActS where
  k : Int
  v : Value
  nodes : List ByteArray
  n : Int
/-- A slice of acts that is read. -/
def RdAct (w : World) (v : Value) (xs : List ActS) : Prop :=
  (∃ a c, v = .slice a 0 c ∧ xs = []) ∨ ∃ b o c, v = .slice (some ⟨b, o, none⟩) xs.length c ∧ b < w.heap.size ∧ xs.length ≤ c ∧ ∀ (j : Nat) x, xs[j]? = some x → w.cell? ⟨b, o + j * 3, none⟩ = some (.int .i64 x.k) ∧ w.cell? ⟨b, o + j * 3 + 1, none⟩ = some x.v ∧ w.cell? ⟨b, o + j * 3 + 2, none⟩ = some (.int .i64 x.n) ∧ RdS w x.v x.nodes
theorem RdAct.ext {w w' : World} {v : Value} {xs : List ActS} (h : RdAct w v xs) (k : Ext w w') : RdAct w' v xs := by
  rcases h with h | ⟨b, o, c, h1, h2, h3, h4⟩
  · exact .inl h
  · exact .inr ⟨b, o, c, h1, Nat.lt_of_lt_of_le h2 k.size, h3, fun j x hx => ⟨cell_ext (h4 j x hx).1 k, cell_ext (h4 j x hx).2.1 k, cell_ext (h4 j x hx).2.2.1 k, (h4 j x hx).2.2.2.ext k⟩⟩
theorem RdAct.sl {w : World} {v : Value} {xs : List ActS} (h : RdAct w v xs) : ∃ a c, v = .slice a xs.length c := by
  rcases h with ⟨a, c, rfl, rfl⟩ | ⟨b, o, c, rfl, _⟩
  · exact ⟨a, c, rfl⟩
  · exact ⟨_, c, rfl⟩
def SmallA6 (l : List ActS) : Prop := ∀ p ∈ l, p.nodes.length ≤ 9223372036854775807 ∧ ∀ t ∈ p.nodes, t.size ≤ 9223372036854775807
structure FewAct (l : List ActS) : Prop where
  len : l.length ≤ 10
  nodes : ∀ p ∈ l, p.nodes.length ≤ 20
  size : ∀ p ∈ l, ∀ t ∈ p.nodes, t.size ≤ 700
def F6P (l : List ActS) (w : World) (e : Ending) (w' : World) : Prop := ∃ b, e = .returned (.bool b) ∧ Ext w w' ∧ (b = true → FewAct l)
theorem F6P.no {l : List ActS} {w w' : World} (h : Ext w w') : F6P l w (.returned (.bool false)) w' := ⟨false, rfl, h, fun e => by cases e⟩
def F6R (w : World) (l : List ActS) (i : Value) (wr : World) : Prop := ∃ k : Nat, k ≤ l.length ∧ k ≤ 11 ∧ i = .int .i64 k ∧ Ext w wr ∧ ∀ p ∈ l.take k, p.nodes.length ≤ 20 ∧ ∀ t ∈ p.nodes, t.size ≤ 700
def F6R2 (w : World) (N : List ByteArray) (i : Value) (wr : World) : Prop := ∃ k : Nat, k ≤ N.length ∧ i = .int .i64 k ∧ Ext w wr ∧ ∀ t ∈ N.take k, t.size ≤ 700
theorem rds_sl6 {W : World} {v : Value} {l : List ByteArray} (h : RdS W v l) : ∃ a c, v = .slice a l.length c := by
  obtain ⟨a, c, h1, _⟩ := h.slice
  exact ⟨a, c, h1⟩
theorem take_allA {α : Type} {L : List α} {i : Nat} {t : α} {P : α → Prop} (h : ∀ x ∈ L.take i, P x) (ht : L[i]? = some t) (hp : P t) : ∀ x ∈ L.take (i + 1), P x := fun x hx => by
  rw [List.take_add_one, ht] at hx
  rcases List.mem_append.1 hx with hx | hx
  · exact h x hx
  · have hx : x ∈ [t] := hx
    rw [List.mem_singleton.1 hx]; exact hp
set_option maxRecDepth 100000 in
set_option maxHeartbeats 8000000 in
theorem few6_c (w : World) (v : Value) (l : List ActS) (hv : RdAct w v l) (hn : l.length ≤ 9223372036854775807) (hs : SmallA6 l) :
    Calls Tryz.prog 37 #[v] w (F6P l w) := by
  have HV := Lib.hid hv
  have HS := Lib.hid hs
  obtain ⟨a, c, hsl⟩ := hv.sl
  subst hsl
  clear hv hs
  go_enter Tryz.func37, Tryz.ntmps37
  go_wp2_with fail
  go_loopw [3] (fun i wr => F6R w l i wr) (fun i _ => l.length - (intOf i).toNat)
  case atStart => exact ⟨0, by omega, by omega, rfl, ExtR w, fun p hp => by cases hp⟩
  case round =>
    obtain ⟨k, hk, hk6, rfl, hE, hall⟩ := hrel
    have HE := Lib.hid hE
    have HALL := Lib.hid hall
    clear hE hall
    by_cases hlt : k < l.length
    · have b1 : (k : Int) < (l.length : Int) := by omega
      by_cases h45 : k ≤ 10
      · have b2 : (k : Int) ≤ 10 := by omega
        obtain ⟨p, hp⟩ : ∃ p, l[k]? = some p := ⟨_, List.getElem?_eq_getElem hlt⟩
        rcases HV.out with ⟨_, _, _, h0⟩ | ⟨b, o, c1, hh, hb, hc, hcell⟩
        · rw [h0] at hlt; cases hlt
        cases hh
        obtain ⟨_, q0, _, hrd⟩ := hcell k p hp
        have q1 := cell_ext q0 HE.out
        have hsp := HS.out p (List.mem_of_getElem? hp)
        have HP := Lib.hid hp
        obtain ⟨pk, pv, N, pn⟩ := p
        simp only at q1 hrd hsp
        obtain ⟨na, nc, hsl⟩ := rds_sl6 hrd
        subst hsl
        have HRD := Lib.hid hrd
        have HSZ := Lib.hid hsp.2
        have hN63 := hsp.1
        clear hcell hb hc hp q0 hrd hsp
        by_cases hx : 20 < N.length
        · have b3 : (20 : Int) < (N.length : Int) := by omega
          clear hx
          go_wp2_with fail
          go_ret
          exact F6P.no HE.out
        · have b3 : ¬ (20 : Int) < (N.length : Int) := by omega
          go_wp2_with fail
          go_loopw [4] (fun i wr => F6R2 w N i wr) (fun i _ => N.length - (intOf i).toNat)
          case atStart => exact ⟨0, by omega, rfl, HE.out, fun t ht => by cases ht⟩
          case round =>
            obtain ⟨j, hj, rfl, hE2, hall2⟩ := hrel
            have HE2 := Lib.hid hE2
            have HALL2 := Lib.hid hall2
            rcases HV.out with ⟨_, _, _, h0⟩ | ⟨b', o', c1', hh, hb, hc, hcell⟩
            · rw [h0] at hlt; cases hlt
            obtain ⟨e1, _, _⟩ := Value.slice.inj hh
            obtain ⟨rfl, rfl⟩ : b = b' ∧ o = o' := by
              have := Option.some.inj e1; injection this with h1 h2 h3; exact ⟨h1, h2⟩
            have q1 := cell_ext (hcell k _ HP.out).2.1 HE2.out
            simp only at q1
            clear hE2 hall2 hcell hb hc hh e1
            by_cases hlt2 : j < N.length
            · have b4 : (j : Int) < (N.length : Int) := by omega
              obtain ⟨t, ht⟩ : ∃ t, N[j]? = some t := ⟨_, List.getElem?_eq_getElem hlt2⟩
              obtain ⟨a7, c7, hhh, hcx⟩ := HRD.out.slice
              obtain ⟨bx, ox, hax, hcx0⟩ := hcx j t ht
              obtain ⟨e1, _, e3⟩ := Value.slice.inj hhh
              rw [hax] at e1
              subst e1
              have q2 := cell_ext hcx0 HE2.out
              have hts := HSZ.out t (List.mem_of_getElem? ht)
              have HT := Lib.hid ht
              clear hhh hcx hcx0 hax ht e3
              by_cases h7 : 700 < t.size
              · have b5 : (700 : Int) < (t.size : Int) := by omega
                clear h7
                go_wp2_with fail
                go_ret
                exact F6P.no HE2.out
              · have b5 : ¬ (700 : Int) < (t.size : Int) := by omega
                have HNX := Lib.hid (take_allA HALL2.out HT.out (show t.size ≤ 700 by omega))
                clear h7
                go_wp2_with fail
                go_roundw
                case rel => exact ⟨j + 1, by omega, by go_num, HE2.out, HNX.out⟩
                case measure => simp [intOf]; omega
            · have b4 : ¬ (j : Int) < (N.length : Int) := by omega
              have HNX := Lib.hid (show ∀ p ∈ l.take (k + 1), p.nodes.length ≤ 20 ∧ ∀ t ∈ p.nodes, t.size ≤ 700 from take_allA HALL.out HP.out ⟨by show N.length ≤ 20; omega, by have h := HALL2.out; rwa [List.take_of_length_le (by omega)] at h⟩)
              go_wp2_with fail
              go_roundw
              case rel => exact ⟨k + 1, by omega, by omega, by go_num, HE2.out, HNX.out⟩
              case measure => simp [intOf]; omega
      · have b2 : ¬ (k : Int) ≤ 10 := by omega
        have b3 : ¬ (l.length : Int) ≤ 10 := by omega
        clear h45
        go_wp2_with fail
        go_ret
        exact F6P.no HE.out
    · have hkl : k = l.length := by omega
      have b1 : ¬ (k : Int) < (l.length : Int) := by omega
      have hall := HALL.out
      rw [hkl, List.take_length] at hall
      by_cases h45 : l.length ≤ 10
      · have b2 : (l.length : Int) ≤ 10 := by omega
        have HF := Lib.hid (show FewAct l from ⟨h45, fun p hp => (hall p hp).1, fun p hp => (hall p hp).2⟩)
        clear hkl hall h45
        go_wp2_with fail
        go_ret
        exact ⟨true, rfl, HE.out, fun _ => HF.out⟩
      · have b2 : ¬ (l.length : Int) ≤ 10 := by omega
        clear hkl hall h45
        go_wp2_with fail
        go_ret
        exact F6P.no HE.out
end
end Go.Proofs.YtjogjmffkmfmbaaGreatDoor
