/- Parts of the proof, one behind the other: HoldA. Each is under no condition but those that it states. -/
import Derived.Test.YtneojlgbcaejmaaGreatDoorBa34
import Derived.Test.YtneojlgbcaejmaaGreatDoorBa37
/- law 08: Hold. -/
namespace Go.Proofs.YtneojlgbcaejmaaGreatDoor
section
open Go Go.RowKit
set_option linter.unusedSimpArgs false
set_option linter.unusedVariables false
attribute [local go_sem] Oper.semAt_some
def textsL (l : List Pair) : List ByteArray := firsts (flatT (trieT l))
theorem textsL_len {l : List Pair} (h : checkN l = 0) : (textsL l).length ≤ 121 := by
  have h1 := (trie_grows h).1
  have h2 := (check_ok h).len
  show (firsts (flatT (trieT l))).length ≤ _
  omega
def HoldNo (l : List Pair) (w : World) (e : Ending) (w' : World) : Prop := e = .returned (.tuple #[.pointer none, .string ⟨#[]⟩]) ∧ Ext w w' ∧ ¬ (fewB l = true ∧ checkN l = 0 ∧ InjL (textsL l))
def HoldYes (l : List Pair) (w : World) (e : Ending) (w' : World) : Prop := ∃ s bm S, e = .returned (.tuple #[.pointer (some ⟨s, 0, none⟩), .string (shaB (trieT l).text)]) ∧ Ext w w' ∧ StoreAt w' s bm 2000 S ∧ HasM S l ∧ (∀ k, k ∈ S.map (·.1) ↔ ∃ t ∈ textsL l, k = ky t) ∧ fewB l = true ∧ InjL (textsL l)
def HoldP (l : List Pair) (w : World) (e : Ending) (w' : World) : Prop := HoldNo l w e w' ∨ HoldYes l w e w'
theorem add_first {w2 w' : World} {s bm : Nat} {room : Int} {l : List Pair} (W0 : World) (hi : InjL (textsL l)) (h : checkN l = 0) (hroom : 200 ≤ room) {e : Ending} (hp : AddPost w2 s bm room [] (textsL l) (trieT l).text e w') :
    ∃ S, e = .returned (.tuple #[.string (shaB (trieT l).text), .int .i64 0]) ∧ StoreAt w' s bm room S ∧ Keeps (fun z => z = bm) w2 w' ∧ HasM S l ∧ (∀ k, k ∈ S.map (·.1) ↔ ∃ t ∈ textsL l, k = ky t) := by
  obtain ⟨G, M, hG, hnew, hP, hc⟩ := hp
  obtain ⟨l1, l2⟩ := addS_len [] G M (trieT l).text (textsL l) hG hP.inG
  have h3 := textsL_len h
  rcases hc with ⟨h1, _⟩ | ⟨_, he, hS, hK⟩
  · simp at h1; omega
  · have hin := (texts h).head
    have hmem : (trieT l).text ∈ textsL l := List.mem_of_getElem? hin
    obtain ⟨hI, hk⟩ := add_inv (U := textsL l) (H := []) (S := []) hi (SInv.none _) (fun t ht => ht) hG hP (root_all W0 h) hmem
    refine ⟨_, he, hS, hK.mono (fun z _ e => e.elim id (fun e => by simp at e)), ⟨h, fun x hx => ?_⟩, fun k => ?_⟩
    · have hx' : x ∈ textsL l := (firsts_mem _ _).2 hx
      obtain ⟨y, y1, _, y3, _⟩ := hI.text hi hx' ((hk _).2 (.inr ⟨x, hx', rfl⟩))
      exact ⟨y, y1, y3⟩
    · rw [show (bumpH (shaB (trieT l).text).data.toList (bumps ((frK [] M).flatMap (refsO G)) ([] ++ picks G (frK [] M)))) = addS [] G M (trieT l).text from rfl, hk k]
      simp
set_option maxRecDepth 100000 in
set_option maxHeartbeats 8000000 in
theorem hold08_c (w : World) (hc : Cubes w) (v : Value) (l : List Pair) (hv : RdP w v l) (hn : l.length ≤ 9223372036854775807) (hs : SmallP l) :
    Calls Tryz.prog 12 #[v] w (HoldP l w) := by
  have HC := Lib.hid hc
  have HV := Lib.hid hv
  have HS := Lib.hid hs
  have HN := Lib.hid hn
  obtain ⟨a, c, hsl⟩ := hv.sl
  subst hsl
  clear hc hv hs hn
  go_enter Tryz.func12, Tryz.ntmps12
  go_wp2_with fail
  refine (few5_c w _ l HV.out HN.out HS.out).mono ?_
  rintro e w2 ⟨rfl, hE⟩
  have HE2 := Lib.hid hE
  clear hE
  obtain ⟨fw, hfw⟩ : ∃ fw, fw = fewB l := ⟨_, rfl⟩
  have HFW := Lib.hid hfw
  rw [← hfw]
  clear hfw
  by_cases hcl : checkN l = 0
  case neg =>
    go_wp2_with fail
    refine (nodes_bad w2 _ l (HV.out.ext HE2.out) HN.out HS.out hcl).mono ?_
    rintro e w3 ⟨rfl, hE⟩
    have HE3 := Lib.hid (HE2.out.trans hE)
    have HNO := Lib.hid hcl
    obtain ⟨x, hx⟩ : ∃ x, x = checkN l := ⟨_, rfl⟩
    rw [← hx] at hcl ⊢
    have hne : (x == 0) = false := by simpa using hcl
    have hne2 : (x != 0) = true := by simpa using hcl
    clear hcl hx hE HE2
    go_wp2_with fail
    refine (snew_c w3 2000).mono ?_
    rintro e w4 ⟨s, bm, rfl, hE, _, _, _, _⟩
    have HE4 := Lib.hid (HE3.out.trans hE)
    clear hE HE3
    go_wp2_with fail
    refine (apart_c w4 (HC.out.ext HE4.out) _ [] (.inl ⟨none, 0, rfl, rfl⟩) (by simp)).mono ?_
    rintro e w5 ⟨b, rfl, _, hE⟩
    have HE5 := Lib.hid (HE4.out.trans hE)
    clear hE HE4
    cases fw with
    | false =>
      go_wp2_with fail
      go_ret2
      exact .inl ⟨rfl, HE5.out, fun h => HNO.out h.2.1⟩
    | true =>
      go_wp2_with fail
      go_ret2
      exact .inl ⟨rfl, HE5.out, fun h => HNO.out h.2.1⟩
  have HCL := Lib.hid hcl
  clear hcl
  go_wp2_with fail
  refine (nodes_ok w2 _ l (HC.out.ext HE2.out) (HV.out.ext HE2.out) HCL.out).mono ?_
  rintro e w3 ⟨u3, n3, rfl, hR⟩
  have hR : SRow w2 w3 u3 n3 (textsL l) := hR
  obtain ⟨L, hL⟩ : ∃ L, L = textsL l := ⟨_, rfl⟩
  have hlen := textsL_len HCL.out
  have HTL := Lib.hid hL
  rw [← hL] at hR hlen
  have hln : L.length = n3 := by have := hR.len; simpa using this
  have hrd := hR.rd
  obtain ⟨a3, c3, e3⟩ := hR.sl
  have HE3 := Lib.hid (HE2.out.trans hR.ext)
  subst e3
  have HL3 := Lib.hid hrd
  subst hln
  clear hR hrd HE2 hL
  go_wp2_with fail
  refine (snew_c w3 2000).mono ?_
  rintro e w4 ⟨s, bm, rfl, hE, hS, hb1, hb2, hb3⟩
  have HE4 := Lib.hid (HE3.out.trans hE)
  have HZ := Lib.hid (And.intro HE3.out.size hb1)
  have HS4 := Lib.hid (show StoreAt w4 s bm 2000 [] from hS)
  have HL4 := Lib.hid (HL3.out.ext hE)
  clear hE hS HE3 HL3 hb1 hb2 hb3
  go_wp2_with fail
  refine (apart_c w4 (HC.out.ext HE4.out) _ L HL4.out (by omega)).mono ?_
  rintro e w5 ⟨b, rfl, hb, hE⟩
  have HE5 := Lib.hid (HE4.out.trans hE)
  have HS5 := Lib.hid (HS4.out.ext hE)
  have HL5 := Lib.hid (HL4.out.ext hE)
  have HB := Lib.hid hb
  clear hE HE4 HS4 HL4 hb
  cases fw with
  | false =>
    go_wp2_with fail
    go_ret2
    exact .inl ⟨rfl, HE5.out, fun h => by have := HFW.out; rw [h.1] at this; cases this⟩
  | true =>
    cases b with
    | false =>
      go_wp2_with fail
      go_ret2
      refine .inl ⟨rfl, HE5.out, fun h => ?_⟩
      have := HB.out.2 (by rw [HTL.out]; exact h.2.2)
      cases this
    | true =>
      have HI := Lib.hid (show InjL (textsL l) by rw [← HTL.out]; exact HB.out.1 rfl)
      have HSH := Lib.hid (show ShutL L by rw [HTL.out]; exact texts_shut w HCL.out (by have := textsL_len HCL.out; exact Nat.le_trans this (by decide)))
      have HTP := Lib.hid (show L[0]? = some (trieT l).text by rw [HTL.out]; exact (texts HCL.out).head)
      obtain ⟨tp, htp⟩ : ∃ tp, tp = (trieT l).text := ⟨_, rfl⟩
      rw [← htp] at HTP
      have HTX := Lib.hid htp
      clear htp
      go_wp2_with fail
      refine (add_c w5 (HC.out.ext HE5.out) s bm 2000 [] HS5.out _ L HL5.out HSH.out tp HTP.out (by decide) (by decide) (by simp) (fun x hx => by cases hx) (fun x hx => by cases hx)).mono ?_
      rintro e w6 hP
      rw [HTX.out, HTL.out] at hP
      obtain ⟨S, rfl, hS6, hK6, hM, hkk⟩ := add_first w HI.out HCL.out (by decide) hP
      have HF := Lib.hid (And.intro hS6 (And.intro hM hkk))
      have HE6 := Lib.hid (HE5.out.trans' hK6 (fun z hz e => by have e : z = bm := e; have := HZ.out; omega))
      clear hP hS6 hK6 hM hkk
      rw [← HTX.out]
      go_wp2_with fail
      go_ret2
      exact .inr ⟨s, bm, S, by rw [HTX.out]; rfl, HE6.out, HF.out.1, HF.out.2.1, HF.out.2.2, HFW.out.symm, HI.out⟩
end
end Go.Proofs.YtneojlgbcaejmaaGreatDoor
