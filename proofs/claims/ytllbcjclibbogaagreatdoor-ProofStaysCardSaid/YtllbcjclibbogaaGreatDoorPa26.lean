/- Parts of the proof, one behind the other: HoldA, HoldB, RefPl, PreB, Rises, OnlyA, WayA, WayB, WayC. Each is under no condition but those that it states. -/
import Derived.Test.YtllbcjclibbogaaGreatDoorPa25
import Derived.Test.YtllbcjclibbogaaGreatDoorPa10
import Derived.Test.YtllbcjclibbogaaGreatDoorPa4
import Derived.Test.YtllbcjclibbogaaGreatDoorPa21
/- law 08: Hold. -/
namespace Go.Proofs.YtllbcjclibbogaaGreatDoor
section
open Go Go.RowKit
set_option linter.unusedSimpArgs false
set_option linter.unusedVariables false
attribute [local go_sem] Oper.semAt_some
def textsL (l : List Pair) : List ByteArray := firsts (flatT (trieT l))
theorem textsL_len {l : List Pair} (h : checkN l = 0) : (textsL l).length ≤ 121 := by
  have h1 := (trie_grows h).1
  have h2 := (check_ok h).len
  show (firsts (flatT (trieT l))).length ≤ _
  omega
def HoldNo (l : List Pair) (w : World) (e : Ending) (w' : World) : Prop := e = .returned (.tuple #[.pointer none, .string ⟨#[]⟩]) ∧ Ext w w' ∧ ¬ (fewB l = true ∧ checkN l = 0 ∧ InjL (textsL l))
def HoldYes (l : List Pair) (w : World) (e : Ending) (w' : World) : Prop := ∃ s bm S, e = .returned (.tuple #[.pointer (some ⟨s, 0, none⟩), .string (shaB (trieT l).text)]) ∧ Ext w w' ∧ StoreAt w' s bm 2000 S ∧ HasM S l ∧ (∀ k, k ∈ S.map (·.1) ↔ ∃ t ∈ textsL l, k = ky t) ∧ fewB l = true ∧ InjL (textsL l)
def HoldP (l : List Pair) (w : World) (e : Ending) (w' : World) : Prop := HoldNo l w e w' ∨ HoldYes l w e w'
theorem add_first {w2 w' : World} {s bm : Nat} {room : Int} {l : List Pair} (W0 : World) (hi : InjL (textsL l)) (h : checkN l = 0) (hroom : 200 ≤ room) {e : Ending} (hp : AddPost w2 s bm room [] (textsL l) (trieT l).text e w') :
    ∃ S, e = .returned (.tuple #[.string (shaB (trieT l).text), .int .i64 0]) ∧ StoreAt w' s bm room S ∧ Keeps (fun z => z = bm) w2 w' ∧ HasM S l ∧ (∀ k, k ∈ S.map (·.1) ↔ ∃ t ∈ textsL l, k = ky t) := by
  obtain ⟨G, M, hG, hnew, hP, hc⟩ := hp
  obtain ⟨l1, l2⟩ := addS_len [] G M (trieT l).text (textsL l) hG hP.inG
  have h3 := textsL_len h
  rcases hc with ⟨h1, _⟩ | ⟨_, he, hS, hK⟩
  · simp at h1; omega
  · have hin := (texts h).head
    have hmem : (trieT l).text ∈ textsL l := List.mem_of_getElem? hin
    obtain ⟨hI, hk⟩ := add_inv (U := textsL l) (H := []) (S := []) hi (SInv.none _) (fun t ht => ht) hG hP (root_all W0 h) hmem
    refine ⟨_, he, hS, hK.mono (fun z _ e => e.elim id (fun e => by simp at e)), ⟨h, fun x hx => ?_⟩, fun k => ?_⟩
    · have hx' : x ∈ textsL l := (firsts_mem _ _).2 hx
      obtain ⟨y, y1, _, y3, _⟩ := hI.text hi hx' ((hk _).2 (.inr ⟨x, hx', rfl⟩))
      exact ⟨y, y1, y3⟩
    · rw [show (bumpH (shaB (trieT l).text).data.toList (bumps ((frK [] M).flatMap (refsO G)) ([] ++ picks G (frK [] M)))) = addS [] G M (trieT l).text from rfl, hk k]
      simp
set_option maxRecDepth 100000 in
set_option maxHeartbeats 8000000 in
theorem hold08_c (w : World) (hc : Cubes w) (v : Value) (l : List Pair) (hv : RdP w v l) (hn : l.length ≤ 9223372036854775807) (hs : SmallP l) :
    Calls Tryz.prog 19 #[v] w (HoldP l w) := by
  have HC := Lib.hid hc
  have HV := Lib.hid hv
  have HS := Lib.hid hs
  have HN := Lib.hid hn
  obtain ⟨a, c, hsl⟩ := hv.sl
  subst hsl
  clear hc hv hs hn
  go_enter Tryz.func19, Tryz.ntmps19
  go_wp2_with fail
  refine (few5_c w _ l HV.out HN.out HS.out).mono ?_
  rintro e w2 ⟨rfl, hE⟩
  have HE2 := Lib.hid hE
  clear hE
  obtain ⟨fw, hfw⟩ : ∃ fw, fw = fewB l := ⟨_, rfl⟩
  have HFW := Lib.hid hfw
  rw [← hfw]
  clear hfw
  by_cases hcl : checkN l = 0
  case neg =>
    go_wp2_with fail
    refine (nodes_bad w2 _ l (HV.out.ext HE2.out) HN.out HS.out hcl).mono ?_
    rintro e w3 ⟨rfl, hE⟩
    have HE3 := Lib.hid (HE2.out.trans hE)
    have HNO := Lib.hid hcl
    obtain ⟨x, hx⟩ : ∃ x, x = checkN l := ⟨_, rfl⟩
    rw [← hx] at hcl ⊢
    have hne : (x == 0) = false := by simpa using hcl
    have hne2 : (x != 0) = true := by simpa using hcl
    clear hcl hx hE HE2
    go_wp2_with fail
    refine (snew_c w3 2000).mono ?_
    rintro e w4 ⟨s, bm, rfl, hE, _, _, _, _⟩
    have HE4 := Lib.hid (HE3.out.trans hE)
    clear hE HE3
    go_wp2_with fail
    refine (apart_c w4 (HC.out.ext HE4.out) _ [] (.inl ⟨none, 0, rfl, rfl⟩) (by simp)).mono ?_
    rintro e w5 ⟨b, rfl, _, hE⟩
    have HE5 := Lib.hid (HE4.out.trans hE)
    clear hE HE4
    cases fw with
    | false =>
      go_wp2_with fail
      go_ret2
      exact .inl ⟨rfl, HE5.out, fun h => HNO.out h.2.1⟩
    | true =>
      go_wp2_with fail
      go_ret2
      exact .inl ⟨rfl, HE5.out, fun h => HNO.out h.2.1⟩
  have HCL := Lib.hid hcl
  clear hcl
  go_wp2_with fail
  refine (nodes_ok w2 _ l (HC.out.ext HE2.out) (HV.out.ext HE2.out) HCL.out).mono ?_
  rintro e w3 ⟨u3, n3, rfl, hR⟩
  have hR : SRow w2 w3 u3 n3 (textsL l) := hR
  obtain ⟨L, hL⟩ : ∃ L, L = textsL l := ⟨_, rfl⟩
  have hlen := textsL_len HCL.out
  have HTL := Lib.hid hL
  rw [← hL] at hR hlen
  have hln : L.length = n3 := by have := hR.len; simpa using this
  have hrd := hR.rd
  obtain ⟨a3, c3, e3⟩ := hR.sl
  have HE3 := Lib.hid (HE2.out.trans hR.ext)
  subst e3
  have HL3 := Lib.hid hrd
  subst hln
  clear hR hrd HE2 hL
  go_wp2_with fail
  refine (snew_c w3 2000).mono ?_
  rintro e w4 ⟨s, bm, rfl, hE, hS, hb1, hb2, hb3⟩
  have HE4 := Lib.hid (HE3.out.trans hE)
  have HZ := Lib.hid (And.intro HE3.out.size hb1)
  have HS4 := Lib.hid (show StoreAt w4 s bm 2000 [] from hS)
  have HL4 := Lib.hid (HL3.out.ext hE)
  clear hE hS HE3 HL3 hb1 hb2 hb3
  go_wp2_with fail
  refine (apart_c w4 (HC.out.ext HE4.out) _ L HL4.out (by omega)).mono ?_
  rintro e w5 ⟨b, rfl, hb, hE⟩
  have HE5 := Lib.hid (HE4.out.trans hE)
  have HS5 := Lib.hid (HS4.out.ext hE)
  have HL5 := Lib.hid (HL4.out.ext hE)
  have HB := Lib.hid hb
  clear hE HE4 HS4 HL4 hb
  cases fw with
  | false =>
    go_wp2_with fail
    go_ret2
    exact .inl ⟨rfl, HE5.out, fun h => by have := HFW.out; rw [h.1] at this; cases this⟩
  | true =>
    cases b with
    | false =>
      go_wp2_with fail
      go_ret2
      refine .inl ⟨rfl, HE5.out, fun h => ?_⟩
      have := HB.out.2 (by rw [HTL.out]; exact h.2.2)
      cases this
    | true =>
      have HI := Lib.hid (show InjL (textsL l) by rw [← HTL.out]; exact HB.out.1 rfl)
      have HSH := Lib.hid (show ShutL L by rw [HTL.out]; exact texts_shut w HCL.out (by have := textsL_len HCL.out; exact Nat.le_trans this (by decide)))
      have HTP := Lib.hid (show L[0]? = some (trieT l).text by rw [HTL.out]; exact (texts HCL.out).head)
      obtain ⟨tp, htp⟩ : ∃ tp, tp = (trieT l).text := ⟨_, rfl⟩
      rw [← htp] at HTP
      have HTX := Lib.hid htp
      clear htp
      go_wp2_with fail
      refine (add_c w5 (HC.out.ext HE5.out) s bm 2000 [] HS5.out _ L HL5.out HSH.out tp HTP.out (by decide) (by decide) (by simp) (fun x hx => by cases hx) (fun x hx => by cases hx)).mono ?_
      rintro e w6 hP
      rw [HTX.out, HTL.out] at hP
      obtain ⟨S, rfl, hS6, hK6, hM, hkk⟩ := add_first w HI.out HCL.out (by decide) hP
      have HF := Lib.hid (And.intro hS6 (And.intro hM hkk))
      have HE6 := Lib.hid (HE5.out.trans' hK6 (fun z hz e => by have e : z = bm := e; have := HZ.out; omega))
      clear hP hS6 hK6 hM hkk
      rw [← HTX.out]
      go_wp2_with fail
      go_ret2
      exact .inr ⟨s, bm, S, by rw [HTX.out]; rfl, HE6.out, HF.out.1, HF.out.2.1, HF.out.2.2, HFW.out.symm, HI.out⟩
end
end Go.Proofs.YtllbcjclibbogaaGreatDoor
/- law 08: Hold, and what its store is. -/
namespace Go.Proofs.YtllbcjclibbogaaGreatDoor
section
open Go Go.RowKit
set_option linter.unusedSimpArgs false
set_option linter.unusedVariables false
attribute [local go_sem] Oper.semAt_some
/-- A store that holds one map: its items are new since a size. -/
structure Held1 (z : Nat) (room : Int) (l : List Pair) (s bm : Nat) (S : List Nd5) (w' : World) : Prop where
  st : StoreAt w' s bm room S
  hasM : HasM S l
  key : ∀ k, k ∈ S.map (·.1) ↔ ∃ t ∈ textsL l, k = ky t
  bnew : z ≤ bm
  snew : z ≤ s
  new : ∀ x ∈ S, z ≤ x.2.1
  bd : ∀ x ∈ S, 0 ≤ x.2.2.used ∧ x.2.2.used ≤ 3201 ∧ 0 ≤ x.2.2.held ∧ x.2.2.held ≤ 3201
  len : S.length ≤ 121
  inv : ∀ U, InjL U → (∀ t ∈ textsL l, t ∈ U) → SInv U [shaB (trieT l).text] S
def HoldYesX (l : List Pair) (w : World) (e : Ending) (w' : World) : Prop := ∃ s bm S, e = .returned (.tuple #[.pointer (some ⟨s, 0, none⟩), .string (shaB (trieT l).text)]) ∧ Ext w w' ∧ Held1 w.heap.size 2000 l s bm S w' ∧ fewB l = true ∧ InjL (textsL l)
def HoldPX (l : List Pair) (w : World) (e : Ending) (w' : World) : Prop := HoldNo l w e w' ∨ HoldYesX l w e w'
theorem add_firstX {w2 w' : World} {s bm z : Nat} {room : Int} {l : List Pair} (W0 : World) (hi : InjL (textsL l)) (h : checkN l = 0) (hroom : 200 ≤ room) (hz : z ≤ w2.heap.size) (hb : z ≤ bm) (hsz : z ≤ s) {e : Ending} (hp : AddPost w2 s bm room [] (textsL l) (trieT l).text e w') :
    ∃ S, e = .returned (.tuple #[.string (shaB (trieT l).text), .int .i64 0]) ∧ Keeps (fun z => z = bm) w2 w' ∧ Held1 z room l s bm S w' := by
  obtain ⟨G, M, hG, hnew, hP, hc⟩ := hp
  obtain ⟨l1, l2⟩ := addS_len [] G M (trieT l).text (textsL l) hG hP.inG
  have h3 := textsL_len h
  rcases hc with ⟨h1, _⟩ | ⟨_, he, hS, hK⟩
  · simp at h1; omega
  · have hin := (texts h).head
    have hmem : (trieT l).text ∈ textsL l := List.mem_of_getElem? hin
    have key := fun (U : List ByteArray) (hU : InjL U) (hLU : ∀ t ∈ textsL l, t ∈ U) => add_inv (U := U) (H := []) (S := []) hU (SInv.none _) hLU hG hP (root_all W0 h) hmem
    obtain ⟨hI, hk⟩ := key _ hi (fun t ht => ht)
    have hbd := addS_bounds (S := []) (M := M) (top := (trieT l).text) (n := 0) (by simp) (Int.le_refl 0) hG (given_shut hG (texts_shut W0 h (by have := h3; exact Nat.le_trans this (by decide)))) hP.inG
    have hS : StoreAt w' s bm room (addS [] G M (trieT l).text) := hS
    refine ⟨addS [] G M (trieT l).text, he, hK.mono (fun z _ e => e.elim id (fun e => by simp at e)), ⟨hS, ⟨h, fun x hx => ?_⟩, fun k => ?_, hb, hsz, fun x hx => ?_, fun x hx => ?_, ?_, fun U hU hLU => (key U hU hLU).1⟩⟩
    · have hx' : x ∈ textsL l := (firsts_mem _ _).2 hx
      obtain ⟨y, y1, _, y3, _⟩ := hI.text hi hx' ((hk _).2 (.inr ⟨x, hx', rfl⟩))
      exact ⟨y, y1, y3⟩
    · rw [hk k]; simp
    · rw [addS_is] at hx
      obtain ⟨y, hy, rfl⟩ := List.mem_map.1 hx
      show z ≤ y.2.1
      rw [List.nil_append] at hy
      exact Nat.le_trans hz (hnew y (picks_mem hy).1)
    · have := hbd x hx; omega
    · rw [l1]; simp; omega
set_option maxRecDepth 100000 in
set_option maxHeartbeats 8000000 in
theorem hold08x_c (w : World) (hc : Cubes w) (v : Value) (l : List Pair) (hv : RdP w v l) (hn : l.length ≤ 9223372036854775807) (hs : SmallP l) :
    Calls Tryz.prog 19 #[v] w (HoldPX l w) := by
  have HC := Lib.hid hc
  have HV := Lib.hid hv
  have HS := Lib.hid hs
  have HN := Lib.hid hn
  obtain ⟨a, c, hsl⟩ := hv.sl
  subst hsl
  clear hc hv hs hn
  go_enter Tryz.func19, Tryz.ntmps19
  go_wp2_with fail
  refine (few5_c w _ l HV.out HN.out HS.out).mono ?_
  rintro e w2 ⟨rfl, hE⟩
  have HE2 := Lib.hid hE
  clear hE
  obtain ⟨fw, hfw⟩ : ∃ fw, fw = fewB l := ⟨_, rfl⟩
  have HFW := Lib.hid hfw
  rw [← hfw]
  clear hfw
  by_cases hcl : checkN l = 0
  case neg =>
    go_wp2_with fail
    refine (nodes_bad w2 _ l (HV.out.ext HE2.out) HN.out HS.out hcl).mono ?_
    rintro e w3 ⟨rfl, hE⟩
    have HE3 := Lib.hid (HE2.out.trans hE)
    have HNO := Lib.hid hcl
    obtain ⟨x, hx⟩ : ∃ x, x = checkN l := ⟨_, rfl⟩
    rw [← hx] at hcl ⊢
    have hne : (x == 0) = false := by simpa using hcl
    have hne2 : (x != 0) = true := by simpa using hcl
    clear hcl hx hE HE2
    go_wp2_with fail
    refine (snew_c w3 2000).mono ?_
    rintro e w4 ⟨s, bm, rfl, hE, _, _, _, _⟩
    have HE4 := Lib.hid (HE3.out.trans hE)
    clear hE HE3
    go_wp2_with fail
    refine (apart_c w4 (HC.out.ext HE4.out) _ [] (.inl ⟨none, 0, rfl, rfl⟩) (by simp)).mono ?_
    rintro e w5 ⟨b, rfl, _, hE⟩
    have HE5 := Lib.hid (HE4.out.trans hE)
    clear hE HE4
    cases fw with
    | false =>
      go_wp2_with fail
      go_ret2
      exact .inl ⟨rfl, HE5.out, fun h => HNO.out h.2.1⟩
    | true =>
      go_wp2_with fail
      go_ret2
      exact .inl ⟨rfl, HE5.out, fun h => HNO.out h.2.1⟩
  have HCL := Lib.hid hcl
  clear hcl
  go_wp2_with fail
  refine (nodes_ok w2 _ l (HC.out.ext HE2.out) (HV.out.ext HE2.out) HCL.out).mono ?_
  rintro e w3 ⟨u3, n3, rfl, hR⟩
  have hR : SRow w2 w3 u3 n3 (textsL l) := hR
  obtain ⟨L, hL⟩ : ∃ L, L = textsL l := ⟨_, rfl⟩
  have hlen := textsL_len HCL.out
  have HTL := Lib.hid hL
  rw [← hL] at hR hlen
  have hln : L.length = n3 := by have := hR.len; simpa using this
  have hrd := hR.rd
  obtain ⟨a3, c3, e3⟩ := hR.sl
  have HE3 := Lib.hid (HE2.out.trans hR.ext)
  subst e3
  have HL3 := Lib.hid hrd
  subst hln
  clear hR hrd HE2 hL
  go_wp2_with fail
  refine (snew_c w3 2000).mono ?_
  rintro e w4 ⟨s, bm, rfl, hE, hS, hb1, hb2, hb3⟩
  have HE4 := Lib.hid (HE3.out.trans hE)
  have HZ := Lib.hid (And.intro HE3.out.size (And.intro hb1 hb2))
  have HS4 := Lib.hid (show StoreAt w4 s bm 2000 [] from hS)
  have HL4 := Lib.hid (HL3.out.ext hE)
  clear hE hS HE3 HL3 hb1 hb2 hb3
  go_wp2_with fail
  refine (apart_c w4 (HC.out.ext HE4.out) _ L HL4.out (by omega)).mono ?_
  rintro e w5 ⟨b, rfl, hb, hE⟩
  have HE5 := Lib.hid (HE4.out.trans hE)
  have HS5 := Lib.hid (HS4.out.ext hE)
  have HL5 := Lib.hid (HL4.out.ext hE)
  have HB := Lib.hid hb
  clear hE HE4 HS4 HL4 hb
  cases fw with
  | false =>
    go_wp2_with fail
    go_ret2
    exact .inl ⟨rfl, HE5.out, fun h => by have := HFW.out; rw [h.1] at this; cases this⟩
  | true =>
    cases b with
    | false =>
      go_wp2_with fail
      go_ret2
      refine .inl ⟨rfl, HE5.out, fun h => ?_⟩
      have := HB.out.2 (by rw [HTL.out]; exact h.2.2)
      cases this
    | true =>
      have HI := Lib.hid (show InjL (textsL l) by rw [← HTL.out]; exact HB.out.1 rfl)
      have HSH := Lib.hid (show ShutL L by rw [HTL.out]; exact texts_shut w HCL.out (by have := textsL_len HCL.out; exact Nat.le_trans this (by decide)))
      have HTP := Lib.hid (show L[0]? = some (trieT l).text by rw [HTL.out]; exact (texts HCL.out).head)
      obtain ⟨tp, htp⟩ : ∃ tp, tp = (trieT l).text := ⟨_, rfl⟩
      rw [← htp] at HTP
      have HTX := Lib.hid htp
      clear htp
      go_wp2_with fail
      refine (add_c w5 (HC.out.ext HE5.out) s bm 2000 [] HS5.out _ L HL5.out HSH.out tp HTP.out (by decide) (by decide) (by simp) (fun x hx => by cases hx) (fun x hx => by cases hx)).mono ?_
      rintro e w6 hP
      rw [HTX.out, HTL.out] at hP
      obtain ⟨S, rfl, hK6, hH1⟩ := add_firstX w HI.out HCL.out (by decide) (z := w.heap.size) HE5.out.size (by have := HZ.out; omega) (by have := HZ.out; omega) hP
      have HF := Lib.hid hH1
      have HE6 := Lib.hid (HE5.out.trans' hK6 (fun z hz e => by have e : z = bm := e; have := HZ.out; omega))
      clear hP hK6 hH1
      rw [← HTX.out]
      go_wp2_with fail
      go_ret2
      exact .inr ⟨s, bm, S, by rw [HTX.out]; rfl, HE6.out, HF.out, HFW.out.symm, HI.out⟩
end
end Go.Proofs.YtllbcjclibbogaaGreatDoor
/- The trie, plain: refs of what is below. -/
namespace Go.Proofs.YtllbcjclibbogaaGreatDoor
section
open Go Go.RowKit
set_option linter.unusedSimpArgs false
set_option linter.unusedVariables false
theorem ref_pos {f : Nat} {l : List Pair} (h : RowsOk f l) (hn : l ≠ []) : (refB (buildT (f + 1) l).text).size ≠ 0 := ((good f l h).2.1 hn).may.1.pos
theorem getD_range (g : Nat → ByteArray) {i n : Nat} (h : i < n) : ((List.range n).map g).getD i ⟨#[]⟩ = g i := by
  rw [List.getD_eq_getElem?_getD, List.getElem?_map, List.getElem?_range h]; rfl
theorem flat_kid {f : Nat} {l m : List Pair} (hm : m ≠ []) (ho : RowsOk f m) (hk : heldK (buildT (f + 1) m) ⊆ belowF (buildT (f + 1)) l) : ∀ x ∈ flatT (buildT (f + 1) m), 32 ≤ x.size → x ∈ flatT (buildT (f + 1 + 1) l) := fun x hx h32 => by
  have eT : flatT (buildT (f + 1 + 1) l) = nodeB (nodeF (buildT (f + 1)) l) :: flatTs (belowF (buildT (f + 1)) l) := by
    show flatT (.mk (nodeB (nodeF (buildT (f + 1)) l)) (belowF (buildT (f + 1)) l)) = _
    rw [flatT]
  rw [eT]
  have hst := (good f m ho).2.1 hm
  by_cases hs : (buildT (f + 1) m).text.size < 32
  · rw [flat_small hst hs, List.mem_singleton] at hx
    subst hx; omega
  · refine List.mem_cons_of_mem _ (flatTs_mem.2 ⟨buildT (f + 1) m, hk ?_, hx⟩)
    unfold heldK; rw [if_neg hs]; exact List.mem_singleton.2 rfl
end
end Go.Proofs.YtllbcjclibbogaaGreatDoor
/- Whether a text begins with another one: strings.HasPrefix. -/
namespace Go.Proofs.YtllbcjclibbogaaGreatDoor
section
open Go Go.RowKit
set_option linter.unusedSimpArgs false
set_option linter.unusedVariables false
attribute [local go_sem] Oper.semAt_some
def preB (p s : ByteArray) : Bool := p.data.toList.isPrefixOf s.data.toList
theorem take_pre : ∀ (p s : List UInt8), p.isPrefixOf s = (decide (p.length ≤ s.length) && (s.take p.length == p))
  | [], s => by simp
  | x :: p, [] => by simp
  | x :: p, y :: s => by
    have ih := take_pre p s
    simp only [List.isPrefixOf, List.length_cons, List.take_succ_cons, ih, Nat.add_le_add_iff_right]
    by_cases h : x = y
    · subst h; simp
    · have : (y == x) = false := by simpa using fun e => h e.symm
      simp [h, this]
theorem take_ext (s : ByteArray) (n : Nat) : (s.extract 0 n).toList = s.data.toList.take n := by
  rw [ByteArray.toList_eq, ByteArray.data_extract, Array.toList_extract, List.extract_eq_take_drop]; simp
set_option maxRecDepth 100000 in
set_option maxHeartbeats 4000000 in
theorem prefix_c (w : World) (s p : ByteArray) (hs : s.size ≤ 1000000) (hp : p.size ≤ 1000000) : Calls Tryz.prog 158 #[.string s, .string p] w fun e w' => e = .returned (.bool (preB p s)) ∧ w' = w := by
  have ht := take_pre p.data.toList s.data.toList
  have e1 : p.data.toList.length = p.size := rfl
  have e2 : s.data.toList.length = s.size := rfl
  rw [e1, e2, ← take_ext] at ht
  have ht : preB p s = _ := ht
  by_cases hl : p.size ≤ s.size
  · have b1 : (p.size : Int) ≤ (s.size : Int) := by omega
    have b2 : ¬ (s.size : Int) < (p.size : Int) := by omega
    have b3 : ((p.size : Int)).toNat = p.size := by omega
    rw [decide_eq_true hl, Bool.true_and, ← ByteArray.toList_eq] at ht
    rw [ht]
    clear ht e1 e2
    go_enter Tryz.func158, Tryz.ntmps158
    go_wp2_with fail
    go_ret
    exact ⟨rfl, rfl⟩
  · have b1 : (s.size : Int) < (p.size : Int) := by omega
    rw [decide_eq_false hl, Bool.false_and] at ht
    rw [ht]
    clear ht e1 e2
    go_enter Tryz.func158, Tryz.ntmps158
    go_wp2_with fail
    go_ret
    exact ⟨rfl, rfl⟩
set_option maxRecDepth 100000 in
set_option maxHeartbeats 4000000 in
theorem hasPrefix_c (w : World) (s p : ByteArray) (hs : s.size ≤ 1000000) (hp : p.size ≤ 1000000) : Calls Tryz.prog 120 #[.string s, .string p] w fun e w' => e = .returned (.bool (preB p s)) ∧ w' = w := by
  go_enter Tryz.func120, Tryz.ntmps120
  go_wp2_with fail
  refine (prefix_c w s p hs hp).mono ?_
  rintro e w1 ⟨rfl, rfl⟩
  go_wp2_with fail
  go_ret
  exact ⟨rfl, rfl⟩
/-! What a cursor is in memory. -/
theorem own_lt {W : World} {B : Nat} {T : TypeId} {sz : Nat} {v : Value} {n : Nat} {xs : List Value} (h : W.ownsRow B T sz v n xs) {b : Nat} (hb : v.ownBlock = some b) : b < W.heap.size := by
  obtain ⟨h1, h2 | ⟨g, cap, cur, h2, h3, h4, h5⟩⟩ := h
  · rw [h2.1] at hb; cases hb
  · rw [h2] at hb
    have e : some g = some b := hb
    obtain rfl := Option.some.inj e
    exact (Array.getElem?_eq_some_iff.1 h4).1
end
end Go.Proofs.YtllbcjclibbogaaGreatDoor
/- Two maps in order that have the same of each key are the same. -/
namespace Go.Proofs.YtllbcjclibbogaaGreatDoor
section
open Go Go.RowKit
set_option linter.unusedSimpArgs false
set_option linter.unusedVariables false
def Rises (l : List Pair) : Prop := l.Pairwise fun p q => Lt p.k q.k
theorem look_none {k : List UInt8} : ∀ {m : List Pair}, k ∉ m.map Pair.k → look m k = none
  | [], _ => rfl
  | q :: r, h => by
    simp only [List.map_cons, List.mem_cons, not_or] at h
    rw [look_cons, if_neg h.1, look_none h.2]
theorem lt_tri : ∀ (a b : List UInt8), Lt a b ∨ a = b ∨ Lt b a
  | [], [] => .inr (.inl rfl)
  | [], _ :: _ => .inl nil_lt
  | _ :: _, [] => .inr (.inr nil_lt)
  | a :: x, b :: y => by
    rcases Nat.lt_trichotomy a.toNat b.toNat with h | h | h
    · exact .inl (lt_cons.2 (.inl (UInt8.lt_iff_toNat_lt.2 h)))
    · have e := UInt8.toNat_inj.1 h
      subst e
      rcases lt_tri x y with h | h | h
      · exact .inl (lt_cons.2 (.inr ⟨rfl, h⟩))
      · exact .inr (.inl (by rw [h]))
      · exact .inr (.inr (lt_cons.2 (.inr ⟨rfl, h⟩)))
    · exact .inr (.inr (lt_cons.2 (.inl (UInt8.lt_iff_toNat_lt.2 h))))
theorem pair_ext {p q : Pair} (h1 : p.k = q.k) (h2 : p.2 = q.2) : p = q := by
  obtain ⟨⟨⟨a⟩⟩, b⟩ := p
  obtain ⟨⟨⟨c⟩⟩, d⟩ := q
  simp only [Pair.k] at h1 h2
  subst h1; subst h2; rfl
/-- Two maps in order that have the same of each key are the same. -/
theorem rises_ext : ∀ {a b : List Pair}, Rises a → Rises b → (∀ k, look a k = look b k) → a = b
  | [], [], _, _, _ => rfl
  | [], q :: b, _, _, h => by have := h q.k; rw [look_cons, if_pos rfl] at this; cases this
  | p :: a, [], _, _, h => by have := h p.k; rw [look_cons, if_pos rfl] at this; cases this
  | p :: a, q :: b, h1, h2, h => by
    have hp := List.pairwise_cons.1 h1
    have hq := List.pairwise_cons.1 h2
    have out : ∀ (x : List UInt8) (y : Pair) (m : List Pair), (∀ z ∈ m, Lt y.k z.k) → Lt x y.k → look (y :: m) x = none := fun x y m hm hl => by
      refine look_none fun hmem => ?_
      rw [List.map_cons, List.mem_cons] at hmem
      rcases hmem with e | hmem
      · exact lt_irrefl _ (e ▸ hl)
      · obtain ⟨z, hz, e⟩ := List.mem_map.1 hmem
        exact lt_irrefl _ (lt_trans' _ _ _ hl (e ▸ hm z hz))
    have hk : p.k = q.k := by
      rcases lt_tri p.k q.k with e | e | e
      · have := h p.k
        rw [out p.k q b hq.1 e, look_cons, if_pos rfl] at this; cases this
      · exact e
      · have := h q.k
        rw [out q.k p a hp.1 e, look_cons, if_pos rfl] at this; cases this
    have hv : p.2 = q.2 := by
      have := h p.k
      rw [look_cons, if_pos rfl, look_cons, if_pos hk] at this
      exact Option.some.inj this
    have e := pair_ext hk hv
    subst e
    have : a = b := rises_ext hp.2 hq.2 fun k => by
      have hh := h k
      rw [look_cons, look_cons] at hh
      by_cases e : k = p.k
      · have n1 : ∀ m : List Pair, (∀ z ∈ m, Lt p.k z.k) → look m k = none := fun m hm => look_none fun hmem => by
          obtain ⟨z, hz, e2⟩ := List.mem_map.1 hmem
          have := hm z hz
          rw [e2, e] at this; exact lt_irrefl _ this
        rw [n1 a hp.1, n1 b hq.1]
      · rwa [if_neg e, if_neg e] at hh
    rw [this]
end
end Go.Proofs.YtllbcjclibbogaaGreatDoor
/- canon, plain: a map has one root; of another one the root is another one, or two texts collide. -/
namespace Go.Proofs.YtllbcjclibbogaaGreatDoor
section
open Go Go.RowKit
set_option linter.unusedSimpArgs false
set_option linter.unusedVariables false
theorem path_inj : ∀ {a b : List UInt8}, pathL a = pathL b → a = b
  | [], [], _ => rfl
  | [], y :: b, h => by simp [pathL] at h
  | x :: a, [], h => by simp [pathL] at h
  | x :: a, y :: b, h => by
    have h : (x >>> 4) :: (x &&& 15) :: pathL a = (y >>> 4) :: (y &&& 15) :: pathL b := h
    injection h with h1 h
    injection h with h2 h
    have a1 := congrArg UInt8.toNat h1
    have a2 := congrArg UInt8.toNat h2
    rw [nib_hi, nib_hi] at a1
    rw [nib_lo, nib_lo] at a2
    rw [path_inj h, show x = y from UInt8.toNat_inj.1 (by omega)]
end
end Go.Proofs.YtllbcjclibbogaaGreatDoor
/- The way to a key, plain: step by step from a node, and down the rows of a trie. -/
namespace Go.Proofs.YtllbcjclibbogaaGreatDoor
section
open Go Go.RowKit
set_option linter.unusedSimpArgs false
set_option linter.unusedVariables false
/-- Where a path leads on from a node: a ref, and what is left of the path. -/
def stepN (n : NodeT) (p : ByteArray) : ByteArray × ByteArray :=
  if n.kind = 3 then match p.data.toList with
    | [] => (⟨#[]⟩, p)
    | x :: _ => if (n.refs.getD x.toNat ⟨#[]⟩).size = 0 then (⟨#[]⟩, p) else (n.refs.getD x.toNat ⟨#[]⟩, p.extract 1 p.size)
  else if n.kind = 2 then if preB n.path p then (n.refs.getD 0 ⟨#[]⟩, p.extract n.path.size p.size) else (⟨#[]⟩, p)
  else (⟨#[]⟩, p)
/-- What a node claims of what is left of a path. -/
def claimN (n : NodeT) (p : ByteArray) : Option ByteArray :=
  if n.kind = 1 then if n.path = p then some n.value else none
  else if n.kind = 3 then if p.size = 0 ∧ n.value.size ≠ 0 then some n.value else none
  else none
/-- The value of a path among rows. -/
def valL : List Pair → ByteArray → Option ByteArray
  | [], _ => none
  | q :: l, p => if q.1 = p then some q.2 else valL l p
/-- The rows below, on the way. -/
def goL (l : List Pair) (p : ByteArray) : Option (List Pair × ByteArray) :=
  if l.length ≤ 1 then none
  else if 0 < comK l then if preB ((l.getD 0 pd).1.extract 0 (comK l)) p then some (dropL (comK l) l, p.extract (comK l) p.size) else none
  else match p.data.toList with
    | [] => none
    | x :: _ => if (cutL x.toNat l).length = 0 then none else some (dropL 1 (cutL x.toNat l), p.extract 1 p.size)
def bigs (t : ByteArray) : List ByteArray := if t.size < 32 then [] else [t]
/-- The texts that are met below rows, on the way. -/
def wayL : Nat → List Pair → ByteArray → List ByteArray
  | 0, _, _ => []
  | f + 1, l, p => match goL l p with
    | none => []
    | some (m, q) => bigs (buildT (f + 1) m).text ++ wayL f m q
/-- The nodes on the way, and what is left of the path at each. -/
def visL : Nat → List Pair → ByteArray → List (NodeT × ByteArray)
  | 0, l, p => [(nodeF (buildT 0) l, p)]
  | f + 1, l, p => (nodeF (buildT (f + 1)) l, p) :: match goL l p with
    | none => []
    | some (m, q) => visL f m q
def sumL : List Pair → Nat
  | [] => 0
  | q :: l => q.1.size + sumL l
/-! Values of paths. -/
theorem val_mem : ∀ {l : List Pair} {p v : ByteArray}, valL l p = some v → (p, v) ∈ l
  | q :: l, p, v, h => by
    unfold valL at h
    split at h
    · rename_i e
      obtain rfl := Option.some.inj h
      subst e; exact List.mem_cons_self
    · exact List.mem_cons_of_mem _ (val_mem h)
theorem val_of : ∀ {l : List Pair} {p v : ByteArray}, (l.Pairwise fun p q => Lt p.l q.l) → (p, v) ∈ l → valL l p = some v
  | q :: l, p, v, hl, h => by
    rw [List.pairwise_cons] at hl
    unfold valL
    rcases List.mem_cons.1 h with h | h
    · subst h; rw [if_pos rfl]
    · rw [if_neg (fun e => by have := hl.1 _ h; rw [show q.l = p.data.toList from congrArg (fun x : ByteArray => x.data.toList) e] at this; exact lt_irrefl _ this), val_of hl.2 h]
theorem val_none {l : List Pair} {p : ByteArray} (h : ∀ q ∈ l, q.1 ≠ p) : valL l p = none := by
  cases hv : valL l p with
  | none => rfl
  | some v => exact absurd rfl (h _ (val_mem hv))
theorem val_same {l m : List Pair} {p q : ByteArray} (hl : l.Pairwise fun p q => Lt p.l q.l) (hm : m.Pairwise fun p q => Lt p.l q.l) (h : ∀ v, (p, v) ∈ l ↔ (q, v) ∈ m) : valL l p = valL m q := by
  cases hv : valL l p with
  | some v => exact (val_of hm ((h v).1 (val_mem hv))).symm
  | none =>
    cases hw : valL m q with
    | none => rfl
    | some v => rw [val_of hl ((h v).2 (val_mem hw))] at hv; cases hv
theorem pre_iff (a p : ByteArray) : preB a p = true ↔ ∃ r, p.data.toList = a.data.toList ++ r := by
  unfold preB
  rw [List.isPrefixOf_iff_prefix]
  exact ⟨fun ⟨r, h⟩ => ⟨r, h.symm⟩, fun ⟨r, h⟩ => ⟨r, h.symm⟩⟩
theorem ext_l (b : ByteArray) (k : Nat) : (b.extract k b.size).data.toList = b.data.toList.drop k := ext_toList b k b.size (Nat.le_refl _)
theorem size_list (b : ByteArray) : b.data.toList.length = b.size := rfl
theorem sum_drop (k : Nat) : ∀ l : List Pair, sumL (dropL k l) ≤ sumL l
  | [] => Nat.le_refl _
  | q :: l => by
    have := sum_drop k l
    show (q.1.extract k q.1.size).size + sumL (dropL k l) ≤ q.1.size + sumL l
    rw [ext_size]; omega
theorem sum_drop_lt {k : Nat} (hk : 0 < k) : ∀ {l : List Pair}, l ≠ [] → (∀ q ∈ l, k ≤ q.1.size) → sumL (dropL k l) < sumL l
  | q :: l, _, h => by
    have := sum_drop k l
    have := h q List.mem_cons_self
    show (q.1.extract k q.1.size).size + sumL (dropL k l) < q.1.size + sumL l
    rw [ext_size]; omega
theorem sum_filter (g : Pair → Bool) : ∀ l : List Pair, sumL (l.filter g) ≤ sumL l
  | [] => Nat.le_refl _
  | q :: l => by
    have := sum_filter g l
    rw [List.filter_cons]
    show _ ≤ q.1.size + sumL l
    split
    · show q.1.size + sumL _ ≤ _; omega
    · omega
/-! A step down. -/
structure KidP (f : Nat) (l : List Pair) (p : ByteArray) (m : List Pair) (q : ByteArray) : Prop where
  rows : RowsOk f m
  ne : m ≠ []
  step : stepN (nodeF (buildT (f + 1)) l) p = (refB (buildT (f + 1) m).text, q)
  less : q.size < p.size
  valid : validN q = true
  flat : ∀ x ∈ flatT (buildT (f + 1) m), 32 ≤ x.size → x ∈ flatT (buildT (f + 1 + 1) l)
  find : valL m q = valL l p
  sum : sumL m < sumL l
  no : claimN (nodeF (buildT (f + 1)) l) p = none
theorem getD_mem {l : List Pair} (h : 0 < l.length) : l.getD 0 pd ∈ l := by rw [List.getD_eq_getElem?_getD, List.getElem?_eq_getElem h]; exact List.getElem_mem _
theorem head_take {l : List Pair} : ((l.getD 0 pd).1.extract 0 (comK l)).data.toList = (l.getD 0 pd).l.take (comK l) := by
  rw [ByteArray.data_extract, Array.toList_extract, List.extract_eq_take_drop]; simp
theorem head_size {f : Nat} {l : List Pair} (h : RowsOk f l) (h2 : 2 ≤ l.length) : ((l.getD 0 pd).1.extract 0 (comK l)).size = comK l := by
  have := (com_all h h2 _ (getD_mem (by omega))).2
  rw [ByteArray.size_extract]; omega
theorem go_some {f : Nat} {l : List Pair} {p : ByteArray} {m : List Pair} {q : ByteArray} (h : RowsOk (f + 1) l) (hp : validN p = true) (hg : goL l p = some (m, q)) : KidP f l p m q := by
  unfold goL at hg
  by_cases h1 : l.length ≤ 1
  · rw [if_pos h1] at hg; cases hg
  rw [if_neg h1] at hg
  have h2 : 2 ≤ l.length := by omega
  have hcom := com_all h h2
  by_cases hk : 0 < comK l
  · rw [if_pos hk] at hg
    by_cases hpre : preB ((l.getD 0 pd).1.extract 0 (comK l)) p = true
    case neg => rw [if_neg hpre] at hg; cases hg
    rw [if_pos hpre] at hg
    obtain ⟨rfl, rfl⟩ := Prod.mk.inj (Option.some.inj hg)
    have hok : RowsOk f (dropL (comK l) l) := (dropL_ok (comK l) h (fun p hp q hq => (hcom p hp).1.trans (hcom q hq).1.symm) (fun p hp => (hcom p hp).2)).mono (by omega)
    have hne : dropL (comK l) l ≠ [] := fun e => by have := dropL_len (comK l) l; rw [e] at this; simp at this; omega
    have eB : belowF (buildT (f + 1)) l = heldK (buildT (f + 1) (dropL (comK l) l)) := by unfold belowF; rw [if_neg (by omega), if_pos hk]
    have eN : nodeF (buildT (f + 1)) l = ⟨2, (l.getD 0 pd).1.extract 0 (comK l), ⟨#[]⟩, refB (buildT (f + 1) (dropL (comK l) l)).text :: noRefs 15⟩ := by unfold nodeF; rw [if_neg (by omega), if_neg (by omega), if_pos hk]
    obtain ⟨r, hr⟩ := (pre_iff _ _).1 hpre
    have hps : comK l ≤ p.size := by
      rw [← size_list p, hr, List.length_append, size_list, head_size h h2]; omega
    refine ⟨hok, hne, ?_, by rw [ext_size]; omega, valid_ext hp _ _, flat_kid hne hok (by rw [eB]; exact fun _ hh => hh), ?_, sum_drop_lt hk (fun e => by rw [e] at h2; simp at h2) (fun q hq => (hcom q hq).2), by rw [eN]; rfl⟩
    · rw [eN]
      unfold stepN
      rw [if_neg (show ¬ (2 : Nat) = 3 by decide), if_pos rfl, if_pos hpre]
      show (_, p.extract ((l.getD 0 pd).1.extract 0 (comK l)).size p.size) = _
      rw [head_size h h2]; rfl
    · refine val_same hok.rise h.rise fun v => ⟨fun hm => ?_, fun hm => ?_⟩
      · obtain ⟨x, hx, e⟩ := List.mem_map.1 hm
        obtain ⟨e1, e2⟩ := Prod.mk.inj e
        have : x = (p, v) := by
          refine Prod.ext (ba_ext ?_) e2
          have e3 : x.1.data.toList.drop (comK l) = p.data.toList.drop (comK l) := by rw [← ext_l, e1, ext_l]
          have e4 : x.1.data.toList.take (comK l) = p.data.toList.take (comK l) := by
            rw [show x.1.data.toList = x.l from rfl, (hcom x hx).1, ← head_take, hr, List.take_append_of_le_length (by rw [size_list, head_size h h2]; exact Nat.le_refl _), List.take_of_length_le (by rw [size_list, head_size h h2]; exact Nat.le_refl _)]
          show x.1.data.toList = p.data.toList
          rw [← List.take_append_drop (comK l) x.1.data.toList, e3, e4, List.take_append_drop]
        rw [← this]; exact hx
      · exact List.mem_map.2 ⟨_, hm, rfl⟩
  · rw [if_neg hk] at hg
    cases hpl : p.data.toList with
    | nil => rw [hpl] at hg; cases hg
    | cons x r =>
      rw [hpl] at hg
      by_cases hc : (cutL x.toNat l).length = 0
      · have hg : (if (cutL x.toNat l).length = 0 then none else some (dropL 1 (cutL x.toNat l), p.extract 1 p.size)) = some (m, q) := hg
        rw [if_pos hc] at hg; cases hg
      have hg : (if (cutL x.toNat l).length = 0 then none else some (dropL 1 (cutL x.toNat l), p.extract 1 p.size)) = some (m, q) := hg
      rw [if_neg hc] at hg
      obtain ⟨rfl, rfl⟩ := Prod.mk.inj (Option.some.inj hg)
      have hok : RowsOk f (dropL 1 (cutL x.toNat l)) := sub_ok x.toNat h
      have hne : dropL 1 (cutL x.toNat l) ≠ [] := fun e => by have := dropL_len 1 (cutL x.toNat l); rw [e] at this; simp at this; exact hc this.symm
      have hx : x.toNat < 16 := nib_lt (p := (p, p)) hp hpl
      have eB : belowF (buildT (f + 1)) l = (List.range 16).flatMap fun i => if (cutL i l).length = 0 then [] else heldK (buildT (f + 1) (dropL 1 (cutL i l))) := by unfold belowF; rw [if_neg (by omega), if_neg hk]
      obtain ⟨rs, hrs⟩ : ∃ rs, rs = (List.range 16).map fun i => if (cutL i l).length = 0 then (⟨#[]⟩ : ByteArray) else refB (buildT (f + 1) (dropL 1 (cutL i l))).text := ⟨_, rfl⟩
      obtain ⟨va, hva⟩ : ∃ va, va = if (l.getD 0 pd).1.size = 0 then (l.getD 0 pd).2 else ⟨#[]⟩ := ⟨_, rfl⟩
      have eN : nodeF (buildT (f + 1)) l = ⟨3, ⟨#[]⟩, va, rs⟩ := by rw [hrs, hva]; unfold nodeF; rw [if_neg (by omega), if_neg (by omega), if_neg hk]
      have hget : rs.getD x.toNat ⟨#[]⟩ = refB (buildT (f + 1) (dropL 1 (cutL x.toNat l))).text := by rw [hrs, getD_range _ hx, if_neg hc]
      clear hrs hva
      have hps : 1 ≤ p.size := by rw [← size_list p, hpl]; simp
      have hall : ∀ q ∈ cutL x.toNat l, 1 ≤ q.1.size := fun q hq => by
        obtain ⟨_, a, r, e, _⟩ := cutL_mem hq
        rw [← size_list, show q.1.data.toList = a :: r from e]; simp
      have hsum : sumL (dropL 1 (cutL x.toNat l)) < sumL l := Nat.lt_of_lt_of_le (sum_drop_lt (Nat.zero_lt_one) (fun e => hc (by rw [e]; rfl)) hall) (sum_filter _ _)
      refine ⟨hok, hne, ?_, by rw [ext_size]; omega, valid_ext hp _ _, flat_kid hne hok (fun y hy => ?_), ?_, hsum, ?_⟩
      · rw [eN]
        unfold stepN
        rw [if_pos rfl, hpl]
        show (if (rs.getD x.toNat ⟨#[]⟩).size = 0 then _ else (rs.getD x.toNat ⟨#[]⟩, _)) = _
        rw [hget, if_neg (ref_pos hok hne)]
      · rw [eB]
        exact List.mem_flatMap.2 ⟨x.toNat, List.mem_range.2 hx, by rw [if_neg hc]; exact hy⟩
      · refine val_same hok.rise h.rise fun v => ⟨fun hm => ?_, fun hm => ?_⟩
        · obtain ⟨y, hy, e⟩ := List.mem_map.1 hm
          obtain ⟨hyl, a, r', e3, e4⟩ := cutL_mem hy
          obtain ⟨e1, e2⟩ := Prod.mk.inj e
          have : y = (p, v) := by
            refine Prod.ext (ba_ext ?_) e2
            have e5 : y.1.data.toList.drop 1 = p.data.toList.drop 1 := by rw [← ext_l, e1, ext_l]
            have e3 : y.1.data.toList = a :: r' := e3
            show y.1.data.toList = p.data.toList
            rw [e3, hpl] at e5 ⊢
            simp at e5
            rw [e5, UInt8.toNat_inj.1 e4]
          rw [← this]; exact hyl
        · refine List.mem_map.2 ⟨(p, v), ?_, rfl⟩
          refine List.mem_filter.2 ⟨hm, ?_⟩
          unfold pickB
          show (match p.data.toList with | [] => false | a :: _ => a.toNat == x.toNat) = true
          rw [hpl]; simp
      · rw [eN]
        unfold claimN
        rw [if_neg (show ¬ (3 : Nat) = 1 by decide), if_pos rfl, if_neg (fun e => by have := e.1; omega)]
theorem go_none {f : Nat} {l : List Pair} {p : ByteArray} (h : RowsOk f l) (hp : validN p = true) (hg : goL l p = none) : stepN (nodeF (buildT f) l) p = (⟨#[]⟩, p) ∧ claimN (nodeF (buildT f) l) p = valL l p := by
  by_cases h0 : l.length = 0
  · have e : nodeF (buildT f) l = emptyN := by unfold nodeF; rw [if_pos h0]
    rw [e, List.eq_nil_of_length_eq_zero h0]
    exact ⟨rfl, rfl⟩
  by_cases h1 : l.length = 1
  · have e : nodeF (buildT f) l = ⟨1, (l.getD 0 pd).1, (l.getD 0 pd).2, noRefs 16⟩ := by unfold nodeF; rw [if_neg h0, if_pos h1]
    rw [e]
    obtain ⟨q, rfl⟩ := List.length_eq_one_iff.1 h1
    exact ⟨rfl, by unfold claimN valL valL; rfl⟩
  have h2 : 2 ≤ l.length := by omega
  have hcom := com_all h h2
  unfold goL at hg
  rw [if_neg (by omega)] at hg
  by_cases hk : 0 < comK l
  · rw [if_pos hk] at hg
    have e : nodeF (buildT f) l = ⟨2, (l.getD 0 pd).1.extract 0 (comK l), ⟨#[]⟩, refB (buildT f (dropL (comK l) l)).text :: noRefs 15⟩ := by unfold nodeF; rw [if_neg h0, if_neg h1, if_pos hk]
    have hpre : ¬ preB ((l.getD 0 pd).1.extract 0 (comK l)) p = true := fun hh => by rw [if_pos hh] at hg; cases hg
    rw [e]
    refine ⟨?_, ?_⟩
    · unfold stepN
      rw [if_neg (show ¬ (2 : Nat) = 3 by decide), if_pos rfl, if_neg hpre]
    · refine (Eq.trans ?_ (val_none fun q hq e => ?_).symm)
      · rfl
      · refine hpre ((pre_iff _ _).2 ⟨p.data.toList.drop (comK l), ?_⟩)
        rw [head_take, ← (hcom q hq).1, show q.l = p.data.toList from congrArg (fun x : ByteArray => x.data.toList) e, List.take_append_drop]
  · rw [if_neg hk] at hg
    obtain ⟨rs, hrs⟩ : ∃ rs, rs = (List.range 16).map fun i => if (cutL i l).length = 0 then (⟨#[]⟩ : ByteArray) else refB (buildT f (dropL 1 (cutL i l))).text := ⟨_, rfl⟩
    have e : nodeF (buildT f) l = ⟨3, ⟨#[]⟩, if (l.getD 0 pd).1.size = 0 then (l.getD 0 pd).2 else ⟨#[]⟩, rs⟩ := by rw [hrs]; unfold nodeF; rw [if_neg h0, if_neg h1, if_neg hk]
    have hget : ∀ i, i < 16 → (cutL i l).length = 0 → rs.getD i ⟨#[]⟩ = ⟨#[]⟩ := fun i hi hc => by rw [hrs, getD_range _ hi, if_pos hc]
    clear hrs
    rw [e]
    cases hpl : p.data.toList with
    | nil =>
      have hps : p.size = 0 := by rw [← size_list p, hpl]; rfl
      refine ⟨?_, ?_⟩
      · unfold stepN
        rw [if_pos rfl, hpl]
      · unfold claimN
        rw [if_neg (show ¬ (3 : Nat) = 1 by decide), if_pos rfl]
        have hpe : p = ⟨#[]⟩ := ba_ext (by rw [hpl])
        have hm := getD_mem (l := l) (by omega)
        obtain ⟨_, _, _, s4, _⟩ := h.size _ hm
        by_cases hz : (l.getD 0 pd).1.size = 0
        · simp only [hz, if_true]
          rw [if_pos ⟨hps, by omega⟩]
          refine (val_of h.rise ?_).symm
          have hz0 : (l.getD 0 pd).1.data.toList = [] := List.eq_nil_of_length_eq_zero hz
          have : (p, (l.getD 0 pd).2) = l.getD 0 pd := Prod.ext (by
            show p = (l.getD 0 pd).1
            exact ba_ext (by rw [hpl, hz0])) rfl
          rw [this]; exact hm
        · simp only [if_neg hz]
          rw [if_neg (fun e => e.2 rfl)]
          refine (val_none fun q hq e => ?_).symm
          obtain ⟨i, hi⟩ := List.getElem?_of_mem hq
          cases i with
          | zero =>
            have : l.getD 0 pd = q := by rw [List.getD_eq_getElem?_getD, hi]; rfl
            rw [this, e] at hz; exact hz hps
          | succ i =>
            obtain ⟨a, ha⟩ : ∃ a, l[0]? = some a := ⟨_, List.getElem?_eq_getElem (by omega)⟩
            have := pair_get h.rise (by omega) ha hi
            rw [show q.l = [] from (congrArg (fun x : ByteArray => x.data.toList) e).trans hpl] at this
            exact not_lt_nil _ this
    | cons x r =>
      rw [hpl] at hg
      have hg : (if (cutL x.toNat l).length = 0 then none else some (dropL 1 (cutL x.toNat l), p.extract 1 p.size)) = none := hg
      have hc : (cutL x.toNat l).length = 0 := by
        by_cases hc : (cutL x.toNat l).length = 0
        · exact hc
        · rw [if_neg hc] at hg; cases hg
      have hx : x.toNat < 16 := nib_lt (p := (p, p)) hp hpl
      have hps : 1 ≤ p.size := by rw [← size_list p, hpl]; simp
      refine ⟨?_, ?_⟩
      · unfold stepN
        rw [if_pos rfl, hpl]
        show (if (rs.getD x.toNat ⟨#[]⟩).size = 0 then _ else _) = _
        rw [hget _ hx hc, if_pos (show (⟨#[]⟩ : ByteArray).size = 0 from rfl)]
      · unfold claimN
        rw [if_neg (show ¬ (3 : Nat) = 1 by decide), if_pos rfl, if_neg (fun e => by have := e.1; omega)]
        refine (val_none fun q hq e => ?_).symm
        have hin : q ∈ cutL x.toNat l := List.mem_filter.2 ⟨hq, by
          unfold pickB
          rw [show q.1.data.toList = x :: r from (congrArg (fun x : ByteArray => x.data.toList) e).trans hpl]; simp⟩
        rw [List.eq_nil_of_length_eq_zero hc] at hin; cases hin
end
end Go.Proofs.YtllbcjclibbogaaGreatDoor
/- The way to a key, plain: what is met; a proof's run. -/
namespace Go.Proofs.YtllbcjclibbogaaGreatDoor
section
open Go Go.RowKit
set_option linter.unusedSimpArgs false
set_option linter.unusedVariables false
theorem bigs_len (t : ByteArray) : (bigs t).length ≤ 1 := by unfold bigs; split <;> simp
theorem bigs_mem {t x : ByteArray} (h : x ∈ bigs t) : x = t ∧ 32 ≤ x.size := by
  unfold bigs at h
  split at h
  · cases h
  · rw [List.mem_singleton] at h; subst h; exact ⟨rfl, by omega⟩
theorem way_none {f : Nat} {l : List Pair} {p : ByteArray} (hg : goL l p = none) : wayL (f + 1) l p = [] := by rw [wayL, hg]
theorem way_some {f : Nat} {l m : List Pair} {p q : ByteArray} (hg : goL l p = some (m, q)) : wayL (f + 1) l p = bigs (buildT (f + 1) m).text ++ wayL f m q := by rw [wayL, hg]
theorem way_zero {l : List Pair} {p : ByteArray} (h : RowsOk 0 l) : goL l p = none := by unfold goL; rw [if_pos (rows_one h)]
theorem way_len : ∀ (f : Nat) (l : List Pair) (p : ByteArray), (wayL f l p).length ≤ f
  | 0, _, _ => Nat.le_refl _
  | f + 1, l, p => by
    cases hg : goL l p with
    | none => rw [way_none hg]; simp
    | some mq =>
      obtain ⟨m, q⟩ := mq
      rw [way_some hg, List.length_append]
      have := bigs_len (buildT (f + 1) m).text
      have := way_len f m q
      omega
structure WayIs (f : Nat) (l : List Pair) (t : ByteArray) (g : Nat) (m : List Pair) : Prop where
  lt : g < f
  rows : RowsOk g m
  ne : m ≠ []
  text : t = (buildT (g + 1) m).text
  big : 32 ≤ t.size
  sum : sumL m < sumL l
  flat : ∀ x ∈ flatT (buildT (g + 1) m), 32 ≤ x.size → x ∈ flatT (buildT (f + 1) l)
theorem way_is : ∀ (f : Nat) (l : List Pair) (p : ByteArray), RowsOk f l → validN p = true → ∀ t ∈ wayL f l p, ∃ g m, WayIs f l t g m
  | 0, _, _, _, _, t, ht => by cases ht
  | f + 1, l, p, h, hp, t, ht => by
    cases hg : goL l p with
    | none => rw [way_none hg] at ht; cases ht
    | some mq =>
      obtain ⟨m, q⟩ := mq
      rw [way_some hg] at ht
      have hK := go_some h hp hg
      rcases List.mem_append.1 ht with ht | ht
      · obtain ⟨rfl, h32⟩ := bigs_mem ht
        exact ⟨f, m, ⟨Nat.lt_succ_self _, hK.rows, hK.ne, rfl, h32, hK.sum, hK.flat⟩⟩
      · obtain ⟨g, n, hW⟩ := way_is f m q hK.rows hK.valid t ht
        exact ⟨g, n, ⟨Nat.lt_succ_of_lt hW.lt, hW.rows, hW.ne, hW.text, hW.big, Nat.lt_trans hW.sum hK.sum, fun x hx h32 => hK.flat x (hW.flat x hx h32) h32⟩⟩
noncomputable def getN (t : ByteArray) : Option NodeT := open Classical in if ∃ n, IsNode t n then some (nodeOf t) else none
theorem getN_is {t : ByteArray} {n : NodeT} (w : World) (h : IsNode t n) : getN t = some n := by
  unfold getN
  rw [if_pos ⟨n, h⟩, isNode_inj w (nodeOf_is h) h]
theorem getN_no {t : ByteArray} (h : ¬ ∃ n, IsNode t n) : getN t = none := by unfold getN; rw [if_neg h]
noncomputable def runN : Nat → List ByteArray → NodeT → ByteArray → List (NodeT × ByteArray) × List ByteArray × Bool
  | 0, ts, n, p => ([(n, p)], ts, true)
  | f + 1, ts, n, p =>
    if (stepN n p).1.size = 0 then ([(n, p)], ts, true)
    else if (stepN n p).1.size < 32 then ((n, p) :: (runN f ts (nodeOf (stepN n p).1) (stepN n p).2).1, (runN f ts (nodeOf (stepN n p).1) (stepN n p).2).2)
    else match ts with
      | [] => ([(n, p)], [], false)
      | t :: ts' => if textB (shaB t) = (stepN n p).1 then match getN t with
          | some m => ((n, p) :: (runN f ts' m (stepN n p).2).1, (runN f ts' m (stepN n p).2).2)
          | none => ([(n, p)], t :: ts', false)
        else ([(n, p)], t :: ts', false)
theorem runN_succ (f : Nat) (ts : List ByteArray) (n : NodeT) (p : ByteArray) : runN (f + 1) ts n p =
    (if (stepN n p).1.size = 0 then ([(n, p)], ts, true)
    else if (stepN n p).1.size < 32 then ((n, p) :: (runN f ts (nodeOf (stepN n p).1) (stepN n p).2).1, (runN f ts (nodeOf (stepN n p).1) (stepN n p).2).2)
    else match ts with
      | [] => ([(n, p)], [], false)
      | t :: ts' => if textB (shaB t) = (stepN n p).1 then match getN t with
          | some m => ((n, p) :: (runN f ts' m (stepN n p).2).1, (runN f ts' m (stepN n p).2).2)
          | none => ([(n, p)], t :: ts', false)
        else ([(n, p)], t :: ts', false)) := rfl
noncomputable def proveN (root p : ByteArray) : List ByteArray → List (NodeT × ByteArray) × List ByteArray × Bool
  | [] => ([], [], false)
  | t :: ts => if shaB t = root then match getN t with
      | some n => runN p.size ts n p
      | none => ([], t :: ts, false)
    else ([], t :: ts, false)
def lastCl (vs : List (NodeT × ByteArray)) : Option ByteArray := match vs.getLast? with | some (n, p) => claimN n p | none => none
theorem lastC_cons (v x : NodeT × ByteArray) (vs : List (NodeT × ByteArray)) : lastCl (v :: x :: vs) = lastCl (x :: vs) := by unfold lastCl; rw [List.getLast?_cons_cons]
theorem vis_cons (f : Nat) (l : List Pair) (p : ByteArray) : ∃ vs, visL f l p = (nodeF (buildT f) l, p) :: vs := by
  cases f with
  | zero => exact ⟨_, rfl⟩
  | succ f => exact ⟨_, by rw [visL]⟩
theorem run_way (w : World) : ∀ (f : Nat) (l : List Pair) (p : ByteArray) (k : Nat) (ts : List ByteArray), RowsOk f l → validN p = true → p.size ≤ k → runN k (wayL f l p ++ ts) (nodeF (buildT f) l) p = (visL f l p, ts, true) ∧ lastCl (visL f l p) = valL l p := by
  have stop : ∀ (f : Nat) (l : List Pair) (p : ByteArray) (k : Nat) (ts : List ByteArray), RowsOk f l → validN p = true → goL l p = none → runN k ts (nodeF (buildT f) l) p = ([(nodeF (buildT f) l, p)], ts, true) ∧ claimN (nodeF (buildT f) l) p = valL l p := fun f l p k ts h hp hg => by
    obtain ⟨h1, h2⟩ := go_none h hp hg
    refine ⟨?_, h2⟩
    cases k with
    | zero => rfl
    | succ k => rw [runN_succ, h1, if_pos (show (⟨#[]⟩ : ByteArray).size = 0 from rfl)]
  intro f
  induction f with
  | zero =>
    intro l p k ts h hp hk
    obtain ⟨h1, h2⟩ := stop 0 l p k ts h hp (way_zero h)
    exact ⟨h1, h2⟩
  | succ f ih =>
    intro l p k ts h hp hk
    cases hg : goL l p with
    | none =>
      obtain ⟨h1, h2⟩ := stop (f + 1) l p k ts h hp hg
      have e : visL (f + 1) l p = [(nodeF (buildT (f + 1)) l, p)] := by rw [visL, hg]
      rw [way_none hg, e]
      exact ⟨h1, h2⟩
    | some mq =>
      obtain ⟨m, q⟩ := mq
      have hK := go_some h hp hg
      have e : visL (f + 1) l p = (nodeF (buildT (f + 1)) l, p) :: visL f m q := by rw [visL, hg]
      obtain ⟨k, rfl⟩ : ∃ j, k = j + 1 := ⟨k - 1, by have := hK.less; omega⟩
      have hpos := ref_pos hK.rows hK.ne
      obtain ⟨i1, i2⟩ := ih m q k ts hK.rows hK.valid (by have := hK.less; omega)
      obtain ⟨vs, hvs⟩ := vis_cons f m q
      have hst := (good f m hK.rows).2.1 hK.ne
      refine ⟨?_, ?_⟩
      · rw [way_some hg, e, runN_succ, hK.step, if_neg hpos]
        by_cases hs : (buildT (f + 1) m).text.size < 32
        · have hb : bigs (buildT (f + 1) m).text = [] := by unfold bigs; rw [if_pos hs]
          rw [hb, List.nil_append]
          show (if (refB (buildT (f + 1) m).text).size < 32 then _ else _) = _
          rw [refB_small hs, if_pos hs]
          show ((_, _) :: (runN k (wayL f m q ++ ts) (nodeOf (buildT (f + 1) m).text) q).1, (runN k (wayL f m q ++ ts) (nodeOf (buildT (f + 1) m).text) q).2) = _
          have hIs : IsNode (buildT (f + 1) m).text (nodeF (buildT f) m) := ⟨rfl, f, hst.good⟩
          rw [isNode_inj w (nodeOf_is hIs) hIs, i1]
        · have hb : bigs (buildT (f + 1) m).text = [(buildT (f + 1) m).text] := by unfold bigs; rw [if_neg hs]
          rw [hb]
          show (if (refB (buildT (f + 1) m).text).size < 32 then _ else _) = _
          rw [if_neg (by rw [ref33 hs]; omega), refB_big hs]
          show (if textB (shaB (buildT (f + 1) m).text) = textB (shaB (buildT (f + 1) m).text) then match getN (buildT (f + 1) m).text with
              | some x => (_ :: (runN k (wayL f m q ++ ts) x q).1, (runN k (wayL f m q ++ ts) x q).2)
              | none => _
            else _) = _
          have hIs : IsNode (buildT (f + 1) m).text (nodeF (buildT f) m) := ⟨rfl, f, hst.good⟩
          rw [if_pos rfl, getN_is w hIs]
          show (_ :: (runN k (wayL f m q ++ ts) (nodeF (buildT f) m) q).1, (runN k (wayL f m q ++ ts) (nodeF (buildT f) m) q).2) = _
          rw [i1]
      · rw [e, hvs, lastC_cons, ← hvs, i2, hK.find]
theorem prove_way (w : World) (f : Nat) (l : List Pair) (p : ByteArray) (h : RowsOk f l) (hp : validN p = true) : proveN (shaB (buildT (f + 1) l).text) p ((buildT (f + 1) l).text :: wayL f l p) = (visL f l p, [], true) ∧ lastCl (visL f l p) = valL l p := by
  obtain ⟨h1, h2⟩ := run_way w f l p p.size [] h hp (Nat.le_refl _)
  rw [List.append_nil] at h1
  refine ⟨?_, h2⟩
  unfold proveN
  have hIs : IsNode (buildT (f + 1) l).text (nodeF (buildT f) l) := ⟨rfl, f, (good f l h).1⟩
  show (if shaB (buildT (f + 1) l).text = shaB (buildT (f + 1) l).text then match getN (buildT (f + 1) l).text with
      | some n => runN p.size (wayL f l p) n p
      | none => _
    else _) = _
  rw [if_pos rfl, getN_is w hIs]
  exact h1
/-- Of a map: the value of a key. -/
theorem val_find {l : List Pair} (k : ByteArray) : valL (rowsL l) (pathB k) = valL l k := by
  have inj : ∀ {a b : ByteArray}, pathB a = pathB b → a = b := fun {a b} e => ba_ext (path_inj (by
    have := congrArg (fun x : ByteArray => x.data.toList) e
    simpa [pathB] using this))
  induction l with
  | nil => rfl
  | cons q l ih =>
    show (if pathB q.1 = pathB k then some q.2 else valL (rowsL l) (pathB k)) = if q.1 = k then some q.2 else valL l k
    by_cases e : q.1 = k
    · rw [if_pos (by rw [e]), if_pos e]
    · rw [if_neg (fun h => e (inj h)), if_neg e, ih]
end
end Go.Proofs.YtllbcjclibbogaaGreatDoor
/- The way to a key, plain: the cases of a step. -/
namespace Go.Proofs.YtllbcjclibbogaaGreatDoor
section
open Go Go.RowKit
set_option linter.unusedSimpArgs false
set_option linter.unusedVariables false
/-- Where a step leads on. -/
def StepYes (k : Nat) (pa : ByteArray) (rs : List ByteArray) (p r q : ByteArray) : Prop :=
  (k = 2 ∧ preB pa p = true ∧ rs[0]? = some r ∧ q = p.extract pa.size p.size ∧ pa.size ≤ p.size) ∨
  (k = 3 ∧ ∃ x t, p.data.toList = x :: t ∧ rs[x.toNat]? = some r ∧ q = p.extract 1 p.size)
/-- Where it does not. -/
def StepNo (k : Nat) (pa va : ByteArray) (rs : List ByteArray) (p : ByteArray) : Prop :=
  k = 0 ∨ (k = 1 ∧ pa ≠ p) ∨ (k = 2 ∧ preB pa p = false) ∨ (k = 3 ∧ p = ⟨#[]⟩ ∧ va = ⟨#[]⟩) ∨ (k = 3 ∧ ∃ x t, p.data.toList = x :: t ∧ rs[x.toNat]? = some ⟨#[]⟩)
def StepIs (k : Nat) (pa va : ByteArray) (p u : ByteArray) : Prop := (k = 1 ∧ pa = p ∧ va = u) ∨ (k = 3 ∧ p = ⟨#[]⟩ ∧ va = u ∧ va.size ≠ 0)
theorem getD_at {rs : List ByteArray} {i : Nat} (h : i < rs.length) : rs[i]? = some (rs.getD i ⟨#[]⟩) := by
  rw [List.getD_eq_getElem?_getD, List.getElem?_eq_getElem h]; rfl
theorem step_yes {d : Nat} {k : Nat} {pa va : ByteArray} {rs : List ByteArray} (hg : GoodW (InlD d) ⟨k, pa, va, rs⟩) {p r q : ByteArray} (hp : validN p = true) (hs : stepN ⟨k, pa, va, rs⟩ p = (r, q)) (hr : r.size ≠ 0) : StepYes k pa rs p r q := by
  have h1 := hg.one (inlP d)
  have hl : rs.length = 16 := h1.refs
  unfold stepN at hs
  by_cases h3 : k = 3
  · subst h3
    rw [if_pos rfl] at hs
    cases hpl : p.data.toList with
    | nil => rw [hpl] at hs; exact absurd (congrArg ByteArray.size (Prod.mk.inj hs).1.symm) hr
    | cons x t =>
      rw [hpl] at hs
      have hs : (if (rs.getD x.toNat ⟨#[]⟩).size = 0 then (⟨#[]⟩, p) else (rs.getD x.toNat ⟨#[]⟩, p.extract 1 p.size)) = (r, q) := hs
      by_cases h0 : (rs.getD x.toNat ⟨#[]⟩).size = 0
      · rw [if_pos h0] at hs; exact absurd (congrArg ByteArray.size (Prod.mk.inj hs).1.symm) hr
      · rw [if_neg h0] at hs
        obtain ⟨rfl, rfl⟩ := Prod.mk.inj hs
        exact .inr ⟨rfl, x, t, hpl, getD_at (by rw [hl]; exact nib_lt (p := (p, p)) hp hpl), rfl⟩
  · rw [if_neg (show ¬ (NodeT.mk k pa va rs).kind = 3 from h3)] at hs
    by_cases h2 : k = 2
    · subst h2
      rw [if_pos rfl] at hs
      by_cases hpre : preB pa p = true
      · rw [if_pos (show preB (NodeT.mk 2 pa va rs).path p = true from hpre)] at hs
        obtain ⟨rfl, rfl⟩ := Prod.mk.inj hs
        refine .inl ⟨rfl, hpre, getD_at (by rw [hl]; omega), rfl, ?_⟩
        obtain ⟨s, hs⟩ := (pre_iff _ _).1 hpre
        rw [← size_list p, hs, List.length_append, size_list]; omega
      · rw [if_neg (show ¬ preB (NodeT.mk 2 pa va rs).path p = true from hpre)] at hs; exact absurd (congrArg ByteArray.size (Prod.mk.inj hs).1.symm) hr
    · rw [if_neg (show ¬ (NodeT.mk k pa va rs).kind = 2 from h2)] at hs; exact absurd (congrArg ByteArray.size (Prod.mk.inj hs).1.symm) hr
theorem step_no {d : Nat} {k : Nat} {pa va : ByteArray} {rs : List ByteArray} (hg : GoodW (InlD d) ⟨k, pa, va, rs⟩) {p q : ByteArray} (hp : validN p = true) (hs : stepN ⟨k, pa, va, rs⟩ p = (⟨#[]⟩, q)) (hc : claimN ⟨k, pa, va, rs⟩ p = none) : StepNo k pa va rs p := by
  have h1 := hg.one (inlP d)
  have hl : rs.length = 16 := h1.refs
  have hk : k ≤ 3 := h1.kind
  unfold stepN at hs
  unfold claimN at hc
  by_cases h3 : k = 3
  · subst h3
    rw [if_pos rfl] at hs
    rw [if_neg (show ¬ (3 : Nat) = 1 by decide), if_pos rfl] at hc
    cases hpl : p.data.toList with
    | nil =>
      have hp0 : p.size = 0 := by rw [← size_list p, hpl]; rfl
      refine .inr (.inr (.inr (.inl ⟨rfl, ba_empty hp0, ba_empty ?_⟩)))
      by_cases hv : va.size = 0
      · exact hv
      · have hc : (if p.size = 0 ∧ va.size ≠ 0 then some va else none) = none := hc
        rw [if_pos ⟨hp0, hv⟩] at hc; cases hc
    | cons x t =>
      rw [hpl] at hs
      have hs : (if (rs.getD x.toNat ⟨#[]⟩).size = 0 then (⟨#[]⟩, p) else (rs.getD x.toNat ⟨#[]⟩, p.extract 1 p.size)) = (⟨#[]⟩, q) := hs
      have h0 : (rs.getD x.toNat ⟨#[]⟩).size = 0 := by
        by_cases h0 : (rs.getD x.toNat ⟨#[]⟩).size = 0
        · exact h0
        · rw [if_neg h0] at hs; exact congrArg ByteArray.size (Prod.mk.inj hs).1
      exact .inr (.inr (.inr (.inr ⟨rfl, x, t, hpl, by rw [getD_at (by rw [hl]; exact nib_lt (p := (p, p)) hp hpl), ba_empty h0]⟩)))
  · rw [if_neg (show ¬ (NodeT.mk k pa va rs).kind = 3 from h3)] at hs
    by_cases h2 : k = 2
    · subst h2
      rw [if_pos rfl] at hs
      by_cases hpre : preB pa p = true
      · rw [if_pos (show preB (NodeT.mk 2 pa va rs).path p = true from hpre)] at hs
        have e := (Prod.mk.inj hs).1
        cases hg with
        | ext p r a1 a2 a3 => exact absurd (congrArg ByteArray.size e) a2
      · exact .inr (.inr (.inl ⟨rfl, by simpa using hpre⟩))
    · by_cases h1 : k = 1
      · subst h1
        rw [if_pos rfl] at hc
        by_cases he : pa = p
        · have hc : (if pa = p then some va else none) = none := hc
          rw [if_pos he] at hc; cases hc
        · exact .inr (.inl ⟨rfl, he⟩)
      · exact .inl (by omega)
theorem step_is {k : Nat} {pa va : ByteArray} {rs : List ByteArray} {p u : ByteArray} (hc : claimN ⟨k, pa, va, rs⟩ p = some u) : StepIs k pa va p u := by
  unfold claimN at hc
  by_cases h1 : k = 1
  · subst h1
    rw [if_pos rfl] at hc
    have hc : (if pa = p then some va else none) = some u := hc
    by_cases he : pa = p
    · rw [if_pos he] at hc; exact .inl ⟨rfl, he, Option.some.inj hc⟩
    · rw [if_neg he] at hc; cases hc
  · rw [if_neg (show ¬ (NodeT.mk k pa va rs).kind = 1 from h1)] at hc
    by_cases h3 : k = 3
    · subst h3
      rw [if_pos rfl] at hc
      have hc : (if p.size = 0 ∧ va.size ≠ 0 then some va else none) = some u := hc
      by_cases he : p.size = 0 ∧ va.size ≠ 0
      · rw [if_pos he] at hc; exact .inr ⟨rfl, ba_empty he.1, Option.some.inj hc, he.2⟩
      · rw [if_neg he] at hc; cases hc
    · rw [if_neg (show ¬ (NodeT.mk k pa va rs).kind = 3 from h3)] at hc; cases hc
theorem pre_size {a p : ByteArray} (h : preB a p = true) : a.size ≤ p.size := by
  obtain ⟨s, hs⟩ := (pre_iff _ _).1 h
  rw [← size_list p, hs, List.length_append, size_list]; omega
theorem first_is {p : ByteArray} {x : UInt8} {t : List UInt8} (h : p.data.toList = x :: t) : ∃ h0 : 0 < p.size, p[0] = x := by
  obtain ⟨⟨l⟩⟩ := p
  have h : l = x :: t := h
  subst h
  exact ⟨Nat.succ_pos _, rfl⟩
end
end Go.Proofs.YtllbcjclibbogaaGreatDoor
