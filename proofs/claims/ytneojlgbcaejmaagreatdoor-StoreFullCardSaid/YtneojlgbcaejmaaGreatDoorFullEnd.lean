/- Parts of the proof, one behind the other: StoreN, StoreO, FullP. Each is under no condition but those that it states. -/
import Derived.Test.YtneojlgbcaejmaaGreatDoorBa36
import Derived.Test.YtneojlgbcaejmaaGreatDoorBa38
import Derived.Test.YtneojlgbcaejmaaGreatDoorBa41
import Derived.Test.YtneojlgbcaejmaaGreatDoorBa42
import Derived.WalkKit
import Derived.ProofKit
import Derived.OpenShut
import Derived.Lib.SmallJoins
import Derived.Deep.DeepHandedRow
import Derived.Lay
import Derived.Carry
import Derived.ChangeMaps5
/- law 06: works. -/
namespace Go.Proofs.YtneojlgbcaejmaaGreatDoor
section
open Go Go.RowKit
set_option linter.unusedSimpArgs false
set_option linter.unusedVariables false
attribute [local go_sem] Oper.semAt_some
def lfN : NodeT := ⟨1, ⟨#[]⟩, ⟨#[118]⟩, noRefs 16⟩
theorem lf_good : GoodW (InlD 0) lfN := GoodW.leaf ⟨#[]⟩ ⟨#[118]⟩ (by decide) (by decide) (by decide)
def lfT : ByteArray := nodeB lfN
theorem lf_is : IsNode lfT lfN := ⟨rfl, 0, lf_good⟩
theorem lf_hashes (w : World) : hashesT (nodeOf lfT) = [] := by
  rw [isNode_inj w (nodeOf_is lf_is) lf_is]; exact hashes_no 16
theorem lf_shut (w : World) {L : List ByteArray} (hL : ∀ x ∈ L, x = lfT) (hl : L.length ≤ 1000) : ShutL L :=
  ⟨fun t ht => (by rw [hL t ht]; exact ⟨lfN, lf_is⟩), fun t ht h hh => (by rw [hL t ht, lf_hashes w] at hh; cases hh), hl⟩
/-- The leaf is put again: held once more. -/
theorem leaf_again {G : List Nd5} {L : List ByteArray} {t : ByteArray} (hG : G.map kvI = readG L) (hL : ∀ x ∈ L, x = t) (h0 : hashesT (nodeOf t) = []) (b : Nat) :
    bumpH (shaB t).data.toList (bumps (([] : List ByteArray).flatMap (refsO G)) ([((shaB t).data.toList, b, ⟨t, [], 0, 1⟩)] ++ picks G [])) = [((shaB t).data.toList, b, ⟨t, [], 0, 2⟩)] := by
  show bumpH (shaB t).data.toList [((shaB t).data.toList, b, ⟨t, [], 0, 1⟩)] = _
  unfold bumpH
  rw [List.map_cons, List.map_nil, if_pos rfl]
  rfl
theorem new1 {w w' : World} {s bm : Nat} {L : List ByteArray} {t : ByteArray} {e : Ending} (hL : ∀ x ∈ L, x = t) (h0 : hashesT (nodeOf t) = []) (hm : t ∈ L) (h : AddPost w s bm 3 [] L t e w') :
    ∃ b, w.heap.size ≤ b ∧ e = .returned (.tuple #[.string (shaB t), .int .i64 0]) ∧ StoreAt w' s bm 3 [((shaB t).data.toList, b, ⟨t, [], 0, 1⟩)] ∧ Keeps (fun z => z = bm) w w' := by
  obtain ⟨G, M, hG, hnew, hP, h⟩ := h
  have hM := path_leaf hG hL h0 hP
  have hF : frK [] M = [shaB t] := by rw [hM, frK_one]; rfl
  rw [hF] at h
  rcases h with ⟨h, _⟩ | ⟨_, he, hS, hK⟩
  · exact absurd h (by show ¬ (3 : Int) - ((0 : Nat) : Int) < ((1 : Nat) : Int); decide)
  · obtain ⟨b, hb, e2⟩ := leaf_new hG hL h0 hm
    rw [e2] at hS
    obtain ⟨y, hy, rfl⟩ := List.mem_map.1 hb
    exact ⟨y.2.1, hnew y hy, he, hS, hK.mono (fun z _ g => g.elim id (fun g => by cases g))⟩
theorem again1 {w w' : World} {s bm b : Nat} {L : List ByteArray} {t : ByteArray} {e : Ending} (hL : ∀ x ∈ L, x = t) (h0 : hashesT (nodeOf t) = []) (h : AddPost w s bm 3 [((shaB t).data.toList, b, ⟨t, [], 0, 1⟩)] L t e w') :
    e = .returned (.tuple #[.string (shaB t), .int .i64 0]) ∧ StoreAt w' s bm 3 [((shaB t).data.toList, b, ⟨t, [], 0, 2⟩)] ∧ Keeps (fun z => z = bm ∨ z = b) w w' := by
  obtain ⟨G, M, hG, hnew, hP, h⟩ := h
  have hM := path_leaf hG hL h0 hP
  have hF : frK [((shaB t).data.toList, b, ⟨t, [], 0, 1⟩)] M = [] := by
    rw [hM, frK_one, if_neg]
    unfold atL; simp
  rw [hF] at h
  rcases h with ⟨h, _⟩ | ⟨_, he, hS, hK⟩
  · exact absurd h (by show ¬ (3 : Int) - ((1 : Nat) : Int) < ((0 : Nat) : Int); decide)
  · rw [leaf_again hG hL h0 b] at hS
    exact ⟨he, hS, hK.mono (fun z _ g => g.elim .inl (fun g => .inr (by simpa using g)))⟩
theorem one_all (kx : Key) (b : Nat) (t : ByteArray) (n : Int) (h0 : 0 ≤ n) (h1 : n ≤ 1000000000) : ∀ x ∈ [(kx, b, (⟨t, [], 0, n⟩ : It))], 0 ≤ x.2.2.used ∧ x.2.2.used ≤ 1000000000 ∧ 0 ≤ x.2.2.held ∧ x.2.2.held ≤ 1000000000 := by
  intro x hx
  rw [List.mem_singleton] at hx
  subst hx
  exact ⟨Int.le_refl _, (show (0 : Int) ≤ 1000000000 by decide), h0, h1⟩
set_option maxRecDepth 100000 in
set_option maxHeartbeats 8000000 in
theorem works6_c (w : World) (hc : Cubes w) : Calls Tryz.prog 24 #[] w fun e w' => e = .returned (.bool true) ∧ Ext w w' := by
  have HC := Lib.hid hc
  clear hc
  go_enter Tryz.func24, Tryz.ntmps24
  go_wp2_with fail
  refine (snew_c w 3).mono ?_
  rintro e w1 ⟨s, bm, rfl, hE, hS, hb1, hb2, hb3⟩
  have HE1 := Lib.hid hE
  have HS1 := Lib.hid (show StoreAt w1 s bm 3 [] from hS)
  have HNB := Lib.hid (And.intro hb1 hb2)
  clear hE hS hb1 hb2 hb3
  go_wp2_with fail
  refine (show Calls Tryz.prog 46 #[lfN.V] w1 fun e w' => e = .returned (.tuple #[.string lfT, .int .i64 0]) ∧ Ext w1 w' from nput_c (inlP 0) w1 lfN lf_good).mono ?_
  rintro e w2 ⟨rfl, hE⟩
  have HE2 := Lib.hid (HE1.out.trans hE)
  have HS2 := Lib.hid (HS1.out.ext hE)
  have H0 := Lib.hid (lf_hashes w)
  have HSH := Lib.hid (fun L hL hl => lf_shut w (L := L) hL hl)
  obtain ⟨t, ht⟩ : ∃ t, t = lfT := ⟨_, rfl⟩
  rw [← ht] at H0 HSH ⊢
  clear hE HS1 HE1 ht
  go_wp2_with fail
  have hx3 : Ext w2 (w2.alloc (.cells #[.string t] 9)) := (ExtR w2).alloc _
  refine (add_c _ (HC.out.ext (HE2.out.trans hx3)) s bm 3 [] (HS2.out.ext hx3) _ [t] (rds_lit w2 [t] 9) (HSH.out [t] (by simp) (by simp)) t rfl (by decide) (by decide) (by simp) (fun x hx => by cases hx) (fun x hx => by cases hx)).mono ?_
  rintro e w4 hP
  obtain ⟨b, hbn, rfl, hS4, hK4⟩ := new1 (by simp) H0.out (by simp) hP
  have HS4 := Lib.hid hS4
  have HE4 := Lib.hid ((HE2.out.trans hx3).trans' hK4 (fun z hz e => by have e : z = bm := e; have := HNB.out.1; omega))
  have HBN := Lib.hid (show w.heap.size ≤ b from Nat.le_trans (HE2.out.trans hx3).size hbn)
  clear hP hS4 hK4 hx3 hbn HS2 HE2
  obtain ⟨rt, hrt⟩ : ∃ rt, rt = shaB t := ⟨_, rfl⟩
  have HRT := Lib.hid hrt
  rw [← hrt]
  clear hrt
  go_wp2_with fail
  have hx5 : Ext w4 (w4.alloc (.cells #[.string t, .string t] 9)) := (ExtR w4).alloc _
  refine (add_c _ (HC.out.ext (HE4.out.trans hx5)) s bm 3 _ (HS4.out.ext hx5) _ [t, t] (rds_lit w4 [t, t] 9) (HSH.out [t, t] (by simp) (by simp)) t rfl (by decide) (by decide) (by simp) (fun x hx => ⟨(one_all _ _ _ _ (by decide) (by decide) x hx).1, (one_all _ _ _ _ (by decide) (by decide) x hx).2.1⟩) (fun x hx => (one_all _ _ _ _ (by decide) (by decide) x hx).2.2)).mono ?_
  rintro e w6 hP
  obtain ⟨rfl, hS6, hK6⟩ := again1 (by simp) H0.out hP
  have HE6 := Lib.hid ((HE4.out.trans hx5).trans' hK6 (fun z hz e => by have := HNB.out.1; have := HBN.out; rcases e with e | e <;> omega))
  rw [← HRT.out] at hS6 ⊢
  have HS6 := Lib.hid hS6
  clear hP hS6 hK6 hx5 HS4 HE4
  go_wp2_with fail
  have hat : ∀ n : Int, atL [(rt.data.toList, b, (⟨t, [], 0, n⟩ : It))] rt.data.toList = some (rt.data.toList, b, ⟨t, [], 0, n⟩) := fun n => by unfold atL; simp
  refine (drop_more w6 s bm 3 _ HS6.out (one_all _ _ _ _ (by decide) (by decide)) rt _ (hat 2) (by show (1 : Int) ≤ 2; decide) (by show (2 : Int) ≤ 0 + 2; decide)).mono ?_
  rintro e w7 ⟨rfl, hS7, hK7⟩
  have e7 : [(rt.data.toList, b, (⟨t, [], 0, 2⟩ : It))].map (setB 3 b ((2 : Int) - 1)) = [(rt.data.toList, b, (⟨t, [], 0, 1⟩ : It))] := by
    rw [List.map_cons, List.map_nil]; unfold setB; rw [if_pos rfl]; rfl
  have hS7 : StoreAt w7 s bm 3 [(rt.data.toList, b, (⟨t, [], 0, 1⟩ : It))] := by rw [← e7]; exact hS7
  have HS7 := Lib.hid hS7
  have HE7 := Lib.hid (HE6.out.trans' hK7 (fun z hz e => by have e : z = b := e; have := HBN.out; omega))
  have HAT := Lib.hid hat
  clear hS7 hK7 e7 HS6 HE6 hat
  go_wp2_with fail
  refine (scount_c w7 s bm 3 _ rt HS7.out (fun x hx => by have := one_all _ _ _ _ (by decide) (by decide) x hx; omega)).mono ?_
  rintro e w8 ⟨rfl, hE⟩
  rw [HAT.out 1, show countO (some (rt.data.toList, b, (⟨t, [], 0, 1⟩ : It))) = 1 from rfl]
  have HS8 := Lib.hid (HS7.out.ext hE)
  have HE8 := Lib.hid (HE7.out.trans hE)
  clear hE HS7 HE7
  go_wp2_with fail
  refine (sget_c w8 s bm 3 _ rt HS8.out).mono ?_
  rintro e w9 ⟨rfl, hE⟩
  rw [HAT.out 1, show optV ((some (rt.data.toList, b, (⟨t, [], 0, 1⟩ : It))).map (·.2.2.text)) = optV (some t) from rfl]
  have HS9 := Lib.hid (HS8.out.ext hE)
  have HE9 := Lib.hid (HE8.out.trans hE)
  clear hE HS8 HE8
  unfold optV
  go_wp2_with fail
  refine (sroom_c w9 s bm 3 _ HS9.out (by decide) (by decide) (by simp)).mono ?_
  rintro e w10 ⟨rfl, hE⟩
  rw [show (3 : Int) - (([(rt.data.toList, b, (⟨t, [], 0, 1⟩ : It))] : List Nd5).length : Int) = 2 from rfl]
  have HS10 := Lib.hid (HS9.out.ext hE)
  have HE10 := Lib.hid (HE9.out.trans hE)
  clear hE HS9 HE9
  go_wp2_with fail
  refine (drop_last w10 s bm 3 _ HS10.out (one_all _ _ _ _ (by decide) (by decide)) rt _ (HAT.out 1) rfl rfl rfl).mono ?_
  rintro e w11 ⟨rfl, hS11, hK11⟩
  have e11 : delL ([(rt.data.toList, b, (⟨t, [], 0, 1⟩ : It))].map (setB 3 b ((1 : Int) - 1))) rt.data.toList = [] := by
    rw [List.map_cons, List.map_nil]; unfold setB delL; rw [if_pos rfl]; simp
  have hS11 : StoreAt w11 s bm 3 [] := by rw [← e11]; exact hS11
  have HS11 := Lib.hid hS11
  have HE11 := Lib.hid (HE10.out.trans' hK11 (fun z hz e => by have := HNB.out.1; have := HBN.out; have e : z = b ∨ z = bm := e; omega))
  clear hS11 hK11 e11 HS10 HE10 HAT
  go_wp2_with fail
  refine (sget_c w11 s bm 3 [] rt HS11.out).mono ?_
  rintro e w12 ⟨rfl, hE⟩
  rw [show optV ((atL [] rt.data.toList).map (·.2.2.text)) = optV none from rfl]
  have HS12 := Lib.hid (HS11.out.ext hE)
  have HE12 := Lib.hid (HE11.out.trans hE)
  clear hE HS11 HE11
  unfold optV
  go_wp2_with fail
  refine (add_nil w12 _ none 0).mono ?_
  rintro e w13 ⟨rfl, hE⟩
  have HS13 := Lib.hid (HS12.out.ext hE)
  have HE13 := Lib.hid (HE12.out.trans hE)
  clear hE HS12 HE12
  go_wp2_with fail
  have hx14 : Ext w13 (w13.alloc (.cells #[.string t] 9)) := (ExtR w13).alloc _
  have hrr : (rt == rt) = true := by rw [ba_beq]; exact decide_eq_true rfl
  have htt : (t == t) = true := by rw [ba_beq]; exact decide_eq_true rfl
  refine (of_t _ _ [t] (by simp) (rds_lit w13 [t] 9) (HC.out.ext (HE13.out.trans hx14))).mono ?_
  rintro e w14 ⟨rfl, hE⟩
  rw [catB_one, ← HRT.out]
  have HS14 := Lib.hid ((HS13.out.ext hx14).ext hE)
  have HE14 := Lib.hid ((HE13.out.trans hx14).trans hE)
  clear hE hx14 HS13 HE13
  go_wp2_with fail
  refine (drop_none w14 s bm 3 [] HS14.out rt rfl).mono ?_
  rintro e w15 ⟨rfl, hE⟩
  have HS15 := Lib.hid (HS14.out.ext hE)
  have HE15 := Lib.hid (HE14.out.trans hE)
  clear hE HS14 HE14
  go_wp2_with fail
  refine (shashes_c w15 s bm 3 [] HS15.out (by simp)).mono ?_
  rintro e w16 ⟨v, rfl, hR⟩
  obtain ⟨va, vc, hv⟩ := hR.sl
  have hv : v = .slice va 0 vc := hv
  subst hv
  have HS16 := Lib.hid (HS15.out.ext hR.ext)
  have HE16 := Lib.hid (HE15.out.trans hR.ext)
  clear hR HS15 HE15
  go_wp2_with fail
  refine (sroom_c w16 s bm 3 [] HS16.out (by decide) (by decide) (by simp)).mono ?_
  rintro e w17 ⟨rfl, hE⟩
  rw [show (3 : Int) - ((([] : List Nd5).length : Nat) : Int) = 3 from rfl]
  have HS17 := Lib.hid (HS16.out.ext hE)
  have HE17 := Lib.hid (HE16.out.trans hE)
  clear hE HS16 HE16
  go_wp2_with fail
  refine (sheld_c w17 s bm 3 [] rt HS17.out).mono ?_
  rintro e w18 ⟨rfl, hE⟩
  rw [show heldO (atL ([] : List Nd5) rt.data.toList) = 0 from rfl]
  have HE18 := Lib.hid (HE17.out.trans hE)
  clear hE HS17 HE17
  go_wp2_with fail
  go_ret
  exact ⟨rfl, HE18.out⟩
end
end Go.Proofs.YtneojlgbcaejmaaGreatDoor
/- law 06: StoreFull, its walk. -/
namespace Go.Proofs.YtneojlgbcaejmaaGreatDoor
section
open Go Go.RowKit
set_option linter.unusedSimpArgs false
set_option linter.unusedVariables false
attribute [local go_sem] Oper.semAt_some
/-- A store made since W0, with bounds of what it counts. -/
structure StS (W0 : World) (s bm : Nat) (room n : Int) (S : List Nd5) (W : World) : Prop where
  st : StoreAt W s bm room S
  bd : ∀ x ∈ S, 0 ≤ x.2.2.used ∧ x.2.2.used ≤ n ∧ 0 ≤ x.2.2.held ∧ x.2.2.held ≤ n
  new : ∀ x ∈ S, W0.heap.size ≤ x.2.1
  ext : Ext W0 W
  bnew : W0.heap.size ≤ bm
  room : (S.length : Int) ≤ room
theorem StS.grow {W0 W W' : World} {s bm : Nat} {room n : Int} {S : List Nd5} (h : StS W0 s bm room n S W) (k : Ext W W') : StS W0 s bm room n S W' := ⟨h.st.ext k, h.bd, h.new, h.ext.trans k, h.bnew, h.room⟩
def AddE (room : Int) (S S' : List Nd5) (L : List ByteArray) (top : ByteArray) (e : Ending) : Prop :=
  ∃ (r : ByteArray) (g : Int), e = .returned (.tuple #[.string r, .int .i64 g]) ∧ ((g = 3 ∧ S' = S ∧ room < (S.length : Int) + (L.length : Int)) ∨ (g = 0 ∧ r = shaB top))
theorem StoreAt.lts {W : World} {s bm : Nat} {room : Int} {S : List Nd5} (h : StoreAt W s bm room S) : ∀ z, (z = bm ∨ z ∈ S.map (·.2.1)) → z < W.heap.size := by
  rintro z (rfl | hz)
  · obtain ⟨es, ck, h1, _⟩ := h.mp.mp
    exact h1.lt
  · obtain ⟨y, hy, rfl⟩ := List.mem_map.1 hz
    obtain ⟨rv, h1, _⟩ := (h.mp.items y hy).cells
    exact h1.lt
theorem SRow.over {F : BSet} {w0 w w' : World} {v : Value} {n : Nat} {xs : List ByteArray} (h : SRow w0 w v n xs) (k : Keeps F w w') (hF : ∀ b, F b → b < w0.heap.size) : RdS w' v xs :=
  own_rd (own_keeps h.own k fun b hb hf => by have := h.new b hb; have := hF b hf; omega)
theorem add_st {W0 W W' : World} {s bm : Nat} {room n : Int} {S : List Nd5} {L : List ByteArray} {top : ByteArray} {e : Ending} (h : StS W0 s bm room n S W) (hn : 0 ≤ n) (hL : ShutL L) (hl : L.length ≤ 200) (hp : AddPost W s bm room S L top e W') :
    ∃ S', StS W0 s bm room (n + 3201) S' W' ∧ S'.length ≤ S.length + L.length ∧ Keeps (fun z => z = bm ∨ z ∈ S.map (·.2.1)) W W' ∧ AddE room S S' L top e := by
  obtain ⟨G, M, hG, hnew, hP, hc⟩ := hp
  obtain ⟨l1, l2⟩ := addS_len S G M top L hG hP.inG
  rcases hc with ⟨h1, he, hE⟩ | ⟨h1, he, hS, hK⟩
  · refine ⟨S, ⟨h.st.ext hE, fun x hx => ?_, h.new, h.ext.trans hE, h.bnew, h.room⟩, by omega, hE.mono (fun _ _ g => g.elim), _, 3, he, .inl ⟨rfl, rfl, by omega⟩⟩
    have := h.bd x hx; omega
  · have hS : StoreAt W' s bm room (addS S G M top) := hS
    have hb := addS_bounds (M := M) (top := top) h.bd hn hG (given_shut hG hL) hP.inG
    refine ⟨addS S G M top, ⟨hS, fun x hx => ?_, fun x hx => ?_, h.ext.trans' hK (fun z hz e => ?_), h.bnew, by rw [l1]; omega⟩, by omega, hK, _, 0, he, .inr ⟨rfl, rfl⟩⟩
    · have := hb x hx; omega
    · rw [addS_is] at hx
      obtain ⟨y, hy, rfl⟩ := List.mem_map.1 hx
      show W0.heap.size ≤ y.2.1
      rcases List.mem_append.1 hy with hy | hy
      · exact h.new y hy
      · exact Nat.le_trans h.ext.size (hnew y (picks_mem hy).1)
    · rcases e with e | e
      · have := h.bnew; omega
      · obtain ⟨y, hy, e⟩ := List.mem_map.1 e
        have := h.new y hy; omega
/-- Nodes, of any entries. -/
def NodesP (l : List Pair) (w : World) (e : Ending) (w' : World) : Prop := ∃ a n c k, e = .returned (.tuple #[.slice a n c, .int .i64 k]) ∧ Ext w w' ∧ k = checkN l ∧ (checkN l = 0 → n = (textsL l).length ∧ SRow w w' (.slice a n c) n (textsL l))
theorem nodes_any (w : World) (hc : Cubes w) (v : Value) (l : List Pair) (hv : RdP w v l) (hn : l.length ≤ 9223372036854775807) (hs : SmallP l) :
    Calls Tryz.prog 27 #[v] w (NodesP l w) := by
  by_cases h : checkN l = 0
  · refine (nodes_ok w v l hc hv h).mono ?_
    rintro e w' ⟨u, n, rfl, hR⟩
    have hR : SRow w w' u n (textsL l) := hR
    have hln : (textsL l).length = n := by have := hR.len; simpa using this
    obtain ⟨a, c, rfl⟩ := hR.sl
    exact ⟨a, n, c, 0, rfl, hR.ext, h.symm, fun _ => ⟨hln.symm, hR⟩⟩
  · refine (nodes_bad w v l hv hn hs h).mono ?_
    rintro e w' ⟨rfl, hE⟩
    exact ⟨none, 0, 0, checkN l, rfl, hE, rfl, fun h0 => absurd h0 h⟩
theorem shut_of (w : World) {l : List Pair} (h : checkN l = 0) : ShutL (textsL l) := texts_shut w h (by have := textsL_len h; exact Nat.le_trans this (by decide))
set_option maxRecDepth 100000 in
set_option maxHeartbeats 8000000 in
theorem full_c (w : World) (hc : Cubes w) (room : Int) (hr : room ≤ 9223372036854775807) (hr2 : -9223372036854775808 ≤ room) (v u : Value) (l m : List Pair) (hv : RdP w v l) (hu : RdP w u m) (hn : l.length ≤ 9223372036854775807) (hs : SmallP l) (hn2 : m.length ≤ 9223372036854775807) (hs2 : SmallP m) :
    Calls Tryz.prog 9 #[.int .i64 room, v, u] w fun e w' => e = .returned (.bool true) ∧ Ext w w' := by
  have HC := Lib.hid hc
  have HV := Lib.hid hv
  have HU := Lib.hid hu
  have HSS := Lib.hid (And.intro hs hs2)
  have HNN := Lib.hid (And.intro hn hn2)
  obtain ⟨va, vc, hsl⟩ := hv.sl
  subst hsl
  obtain ⟨ua, uc, hsl⟩ := hu.sl
  subst hsl
  clear hc hv hu hs hs2 hn hn2
  go_enter Tryz.func9, Tryz.ntmps9
  go_wp2_with fail
  refine (works6_c w HC.out).mono ?_
  rintro e w1 ⟨rfl, hE⟩
  have HE1 := Lib.hid hE
  clear hE
  go_wp2_with fail
  refine (snew_c w1 room).mono ?_
  rintro e w2 ⟨s, bm, rfl, hE, hS, hb1, hb2, hb3⟩
  have HE2 := Lib.hid (HE1.out.trans hE)
  obtain ⟨rm, hrm⟩ : ∃ rm, rm = max room 0 := ⟨_, rfl⟩
  have hrm0 : 0 ≤ rm ∧ rm ≤ 9223372036854775807 := by omega
  rw [← hrm] at hS
  have HS2 := Lib.hid (show StS w s bm rm 0 [] w2 from ⟨hS, by simp, by simp, HE2.out, Nat.le_trans HE1.out.size hb1, by simp; omega⟩)
  have HRM := Lib.hid hrm
  clear hE hS hb1 hb2 hb3 HE1 hrm
  go_wp2_with fail
  refine (few5_c w2 _ l (HV.out.ext HE2.out) HNN.out.1 HSS.out.1).mono ?_
  rintro e w3 ⟨rfl, hE⟩
  have HS3 := Lib.hid (HS2.out.grow hE)
  clear hE HS2 HE2
  have hno : ∀ x : Value, True := fun _ => trivial
  cases hfa : fewB l with
  | false =>
    go_wp2_with fail
    refine (nodes_any w3 (HC.out.ext HS3.out.ext) _ l (HV.out.ext HS3.out.ext) HNN.out.1 HSS.out.1).mono ?_
    rintro e w4 ⟨xa, xn, xc, k1, rfl, hE, _, _⟩
    have HS4 := Lib.hid (HS3.out.grow hE)
    clear hE HS3
    go_wp2_with fail
    refine (nodes_any w4 (HC.out.ext HS4.out.ext) _ m (HU.out.ext HS4.out.ext) HNN.out.2 HSS.out.2).mono ?_
    rintro e w5 ⟨ya, yn, yc, k2, rfl, hE, _, _⟩
    have HS5 := Lib.hid (HS4.out.grow hE)
    clear hE HS4
    go_wp2_with fail
    go_ret
    exact ⟨rfl, HS5.out.ext⟩
  | true =>
    go_wp2_with fail
    refine (few5_c w3 _ m (HU.out.ext HS3.out.ext) HNN.out.2 HSS.out.2).mono ?_
    rintro e w3' ⟨rfl, hE⟩
    have HS3' := Lib.hid (HS3.out.grow hE)
    clear hE HS3
    cases hfb : fewB m with
    | false =>
      go_wp2_with fail
      refine (nodes_any w3' (HC.out.ext HS3'.out.ext) _ l (HV.out.ext HS3'.out.ext) HNN.out.1 HSS.out.1).mono ?_
      rintro e w4 ⟨xa, xn, xc, k1, rfl, hE, _, _⟩
      have HS4 := Lib.hid (HS3'.out.grow hE)
      clear hE HS3'
      go_wp2_with fail
      refine (nodes_any w4 (HC.out.ext HS4.out.ext) _ m (HU.out.ext HS4.out.ext) HNN.out.2 HSS.out.2).mono ?_
      rintro e w5 ⟨ya, yn, yc, k2, rfl, hE, _, _⟩
      have HS5 := Lib.hid (HS4.out.grow hE)
      clear hE HS4
      go_wp2_with fail
      go_ret
      exact ⟨rfl, HS5.out.ext⟩
    | true =>
      go_wp2_with fail
      refine (nodes_any w3' (HC.out.ext HS3'.out.ext) _ l (HV.out.ext HS3'.out.ext) HNN.out.1 HSS.out.1).mono ?_
      rintro e w4 ⟨xa, xn, xc, k1, rfl, hE, hk1, hx⟩
      have HS4 := Lib.hid (HS3'.out.grow hE)
      have HX4 := Lib.hid hx
      have HK1 := Lib.hid hk1
      have hE4 := hE.size
      clear hE hx hk1
      go_wp2_with fail
      refine (nodes_any w4 (HC.out.ext HS4.out.ext) _ m (HU.out.ext HS4.out.ext) HNN.out.2 HSS.out.2).mono ?_
      rintro e w5 ⟨ya, yn, yc, k2, rfl, hE, hk2, hy⟩
      have HS5 := Lib.hid (HS4.out.grow hE)
      have HX5 := Lib.hid (fun h => And.intro (HX4.out h).1 ((HX4.out h).2.mono hE))
      have HLT := Lib.hid (fun z hz => HS3'.out.st.lts z hz)
      have HZ := Lib.hid hE4
      have HY5 := Lib.hid hy
      have HK2 := Lib.hid hk2
      clear hE HS4 HS3' hy hk2 HX4 hE4
      by_cases h1 : k1 = 0
      case neg =>
        have hne2 : (k1 != 0) = true := by simpa using h1
        go_wp2_with fail
        go_ret
        exact ⟨rfl, HS5.out.ext⟩
      by_cases h2 : k2 = 0
      case neg =>
        subst h1
        have hne2 : (k2 != 0) = true := by simpa using h2
        go_wp2_with fail
        go_ret
        exact ⟨rfl, HS5.out.ext⟩
      subst h1
      subst h2
      have HA := Lib.hid (show checkN l = 0 from HK1.out.symm)
      have HB := Lib.hid (show checkN m = 0 from HK2.out.symm)
      have hxx := HX5.out HA.out
      have hyy := HY5.out HB.out
      have HX := Lib.hid hxx.2
      have HY := Lib.hid hyy.2
      have HLN := Lib.hid (And.intro hxx.1 (And.intro hyy.1 (And.intro (textsL_len HA.out) (textsL_len HB.out))))
      clear hxx hyy HK1 HK2 HX5 HY5
      go_wp2_with fail
      refine (add_c w5 (HC.out.ext HS5.out.ext) s bm rm [] HS5.out.st _ (textsL l) (SRow.rd HX.out) (shut_of w HA.out) (trieT l).text (texts HA.out).head hrm0.1 hrm0.2 (by simp) (fun x hx => by cases hx) (fun x hx => by cases hx)).mono ?_
      rintro e w6 hP
      obtain ⟨S1, hS1, hl1, hK, r1, g1, rfl, _⟩ := add_st HS5.out (Int.le_refl 0) (shut_of w HA.out) (by have := textsL_len HA.out; omega) hP
      have HS6 := Lib.hid hS1
      have HL6 := Lib.hid (show S1.length ≤ 121 by have := textsL_len HA.out; simp at hl1; omega)
      have HY6 := Lib.hid (HY.out.over hK (fun b hb => by
        have h1 : b < w3'.heap.size := HLT.out b hb
        have := HZ.out; omega))
      clear hP hS1 hl1 hK HS5 HX
      go_wp2_with fail
      refine (shashes_c w6 s bm rm S1 HS6.out.st (by have := HL6.out; omega)).mono ?_
      rintro e w7 ⟨wv, rfl, hW⟩
      obtain ⟨wa, wc, hsl⟩ := hW.sl
      subst hsl
      have HW7 := Lib.hid hW
      have HS7 := Lib.hid (HS6.out.grow hW.ext)
      have HLT6 := Lib.hid HS6.out.st.lts
      have HY7 := Lib.hid (HY6.out.ext hW.ext)
      clear hW HS6 HY6
      go_wp2_with fail
      refine (add_c w7 (HC.out.ext HS7.out.ext) s bm rm S1 HS7.out.st _ (textsL m) HY7.out (shut_of w HB.out) (trieT m).text (texts HB.out).head hrm0.1 hrm0.2 (by have := HL6.out; omega) (fun x hx => by have := HS7.out.bd x hx; omega) (fun x hx => by have := HS7.out.bd x hx; omega)).mono ?_
      rintro e w8 hP
      obtain ⟨S2, hS2, hl2, hK, r2, g2, rfl, hg⟩ := add_st HS7.out (by decide) (shut_of w HB.out) (by have := textsL_len HB.out; omega) hP
      have HS8 := Lib.hid hS2
      have HL8 := Lib.hid (show S2.length ≤ 242 by have := textsL_len HB.out; have := HL6.out; omega)
      have HW8 := Lib.hid (HW7.out.over hK HLT6.out)
      have HG := Lib.hid hg
      clear hP hS2 hl2 hK HS7 HY7 HLT6
      go_wp2_with fail
      refine (shashes_c w8 s bm rm S2 HS8.out.st (by have := HL8.out; omega)).mono ?_
      rintro e w9 ⟨nv, rfl, hN⟩
      obtain ⟨na, nc, hsl⟩ := hN.sl
      subst hsl
      have HS9 := Lib.hid (HS8.out.grow hN.ext)
      have HW9 := Lib.hid (HW8.out.ext hN.ext)
      clear hN HS8 HW8
      obtain ⟨n2, hn2⟩ : ∃ n2, n2 = S2.length := ⟨_, rfl⟩
      obtain ⟨n1, hn1⟩ : ∃ n1, n1 = S1.length := ⟨_, rfl⟩
      rw [← hn1, ← hn2]
      have hb1 : n2 ≤ 242 := by rw [hn2]; exact HL8.out
      have hb2 : n1 ≤ 121 := by rw [hn1]; exact HL6.out
      have HNM := Lib.hid (And.intro hn1 hn2)
      have c1 : ¬ max room 0 < (n2 : Int) := by rw [← HRM.out, hn2]; have := HS9.out.room; omega
      obtain ⟨q, hq⟩ : ∃ q : Int, max room 0 - (n2 : Int) = q := ⟨_, rfl⟩
      have c2 : 0 ≤ q ∧ q ≤ 9223372036854775807 := by rw [← hq]; omega
      have HQ := Lib.hid (show rm - (S2.length : Int) = q by rw [HRM.out, ← hn2]; exact hq)
      have hyl : yn ≤ 121 := by have := HLN.out; omega
      have hqq : (q == q) = true := by simp
      clear hn1 hn2
      rcases HG.out with ⟨rfl, hS, hroom⟩ | ⟨rfl, hr⟩
      · have c3 : max room 0 < (n1 : Int) + (yn : Int) := by have h1 := HLN.out.2.1; have h2 := HNM.out.1; rw [← HRM.out, h1, h2]; exact hroom
        have HS := Lib.hid hS
        clear hS hroom
        go_wp2_with fail
        refine (shashes_c w9 s bm rm S2 HS9.out.st (by have := HL8.out; omega)).mono ?_
        rintro e w10 ⟨mv, rfl, hN⟩
        have HS10 := Lib.hid (HS9.out.grow hN.ext)
        have HW10 := Lib.hid (HW9.out.ext hN.ext)
        have HM10 := Lib.hid (SRow.rd hN)
        have hlb : (baL (sortS (S2.map (·.1)))).length ≤ 1000000 := by
          have h1 := hN.len
          rw [List.length_map] at h1
          have := HL8.out
          omega
        have HLB := Lib.hid hlb
        clear hN HS9 HW9 hlb
        go_wp2_with fail
        have hw := HW10.out
        rw [← HNM.out.1, ← HS.out] at hw
        refine (same2_c w10 _ mv (baL (sortS (S2.map (·.1)))) (baL (sortS (S2.map (·.1)))) hw HM10.out HLB.out HLB.out).mono ?_
        rintro e w11 ⟨rfl, hE⟩
        rw [decide_eq_true rfl]
        have HS11 := Lib.hid (HS10.out.grow hE)
        clear hE HS10 hw
        go_wp2_with fail
        refine (sroom_c w11 s bm rm S2 HS11.out.st hrm0.1 hrm0.2 (by have := HL8.out; omega)).mono ?_
        rintro e w12 ⟨rfl, hE⟩
        rw [HQ.out]
        have HS12 := Lib.hid (HS11.out.grow hE)
        clear hE HS11
        go_wp2_with fail
        go_ret
        exact ⟨rfl, HS12.out.ext⟩
      · clear hr
        go_wp2_with fail
        refine (sroom_c w9 s bm rm S2 HS9.out.st hrm0.1 hrm0.2 (by have := HL8.out; omega)).mono ?_
        rintro e w10 ⟨rfl, hE⟩
        rw [HQ.out]
        have HS10 := Lib.hid (HS9.out.grow hE)
        clear hE HS9
        go_wp2_with fail
        go_ret
        exact ⟨rfl, HS10.out.ext⟩
end
end Go.Proofs.YtneojlgbcaejmaaGreatDoor
/- StoreFull, the card: the law is true for every input. -/
namespace Go.Proofs.YtneojlgbcaejmaaGreatDoor
section
open Go Go.ChangeShapes Go.WideShapes Go.ChangeAt Go.RowKit Go.ChangeMaps
set_option linter.unusedSimpArgs false
set_option linter.unusedVariables false
set_option maxRecDepth 100000 in
theorem storeFull_contract (H : Type) (enc : TypeId × Value → H) (W : World) (base : Nat) (args : Array Value) (ds gs : List (DataW H)) (before : List MemPlace)
    (hval : ∀ (j : Nat) t v, Tryz.f9.params[j]? = some t → args[j]? = some v → Value.okWide Tryz.prog W .any base t v)
    (hW : DataW.Whole enc Tryz.prog Tryz.f9.params.toList Rows.storeFullSpec.vars false W args.toList ds gs before) (hL : laidMetH Tryz.prog Rows.storeFullRow.laid W) :
    Calls Tryz.prog 9 args W fun e W' => ∃ v, e = .returned v ∧ Rows.storeFullSpec.post enc Tryz.prog Tryz.f9 false true false false W args v W' := by
  have hW' := hW
  obtain ⟨p, q, hA0, hV, rfl, hfz, hnd⟩ := hW
  have hA : DataW.TrodAll enc Tryz.prog W 0 (fun _ => true) true Tryz.f9.params.toList args.toList ds p := hA0
  rw [Tryz.params9] at hA hval
  obtain ⟨v0, v1, v2, d0, d1, d2, p0, p1, p2, rfl, rfl, rfl, h0, h1, h2⟩ := trodAll_three hA
  obtain ⟨rfl, rfl⟩ := trodVars_none hV
  obtain ⟨s0, rfl, rfl, rfl, ws0⟩ := open_int Tryz.underlying3 (hval 0 3 v0 rfl rfl) h0
  obtain ⟨l1, hl1, hn1, hs1⟩ := open_entries (okWide_slice Tryz.underlying22 (hval 1 22 v1 rfl rfl)) h1
  obtain ⟨l2, hl2, hn2, hs2⟩ := open_entries (okWide_slice Tryz.underlying22 (hval 2 22 v2 rfl rfl)) h2
  clear hA0
  simp only [List.append_nil, List.nil_append] at hW'
  have hlt : ∀ x ∈ p1 ++ p2, x.block < W.heap.size := fun x hx => by simpa using hW'.lt x (by simpa using hx)
  refine (full_c W (cubes_of hL) s0 (show s0 ≤ 9223372036854775807 from by have h : IntKind.i64.min ≤ s0 ∧ s0 ≤ IntKind.i64.max := (by simpa [Lit.wf] using ws0); exact h.2) (show -9223372036854775808 ≤ s0 from by have h : IntKind.i64.min ≤ s0 ∧ s0 ≤ IntKind.i64.max := (by simpa [Lit.wf] using ws0); exact h.1) v1 v2 l1 l2 hl1 hl2 hn1 hs1 hn2 hs2).mono fun e W' ⟨he, hE⟩ => ?_
  subst he
  have hb : Below W.heap.size W W' := ⟨hE.os, hE.tape, hE.output, hE.size, fun k hk => hE.block k hk (fun h => h)⟩
  have hres : DataW.TrodAll enc Tryz.prog W' 0 (fun b => decide (b < W.heap.size)) true [3, 22, 22] [.int .i64 s0, v1, v2] [.lit (.int .i64 s0), d1, d2] (p1 ++ p2) := by
    simpa using trodAll_mk3 (shut_int Tryz.underlying3 ws0) (Below.trod Tryz.laidOutK (by kernel_rfl) (of_decide_eq_true (by kernel_rfl)) h1 hb (fun x hx => hlt x (by simp [hx]))) (Below.trod Tryz.laidOutK (by kernel_rfl) (of_decide_eq_true (by kernel_rfl)) h2 hb (fun x hx => hlt x (by simp [hx])))
  refine ⟨_, rfl, _, _, _, [], p1 ++ p2, [], hW', trodAll_mk1 (shut_bool Tryz.underlying4 _), ?_, rfl, hb.frame _, fun h => by cases h⟩
  exact hres
set_option maxRecDepth 100000 in
theorem storeFull_reads (os : Os) {H : Type} (enc : TypeId × Value → H) : ∃ places, DataW.whole enc Tryz.prog ((laidWorld os).forCall (fun _ _ => 0) ⟨#[], #[.int .i64 0, .slice none 0 0, .slice none 0 0], []⟩).memory Tryz.f9.params.toList Rows.storeFullSpec.vars false #[.int .i64 0, .slice none 0 0, .slice none 0 0].toList 8 = some ([.lit (.int .i64 0), .nil, .nil], [], places) :=
  ⟨[], by kernel_rfl⟩
set_option maxRecDepth 100000 in
theorem storeFull_lifted (os : Os) (started : os.Started) (H : Type) (enc : TypeId × Value → H) (F : Stop.Interp) :
    ReturnsInHanded {} Tryz.checked os 9 .any ((OpenSpec.ofChange Rows.storeFullSpec).preRow enc Tryz.prog Tryz.f9 Rows.storeFullRow.domain false Rows.storeFullRow.laid) (((OpenSpec.ofChange Rows.storeFullSpec).at F).post enc Tryz.prog Tryz.f9 false true false false) := by
  obtain ⟨places, hx⟩ := storeFull_reads os enc
  refine returnsInHanded_of_row (C := Tryz.checked) (s := OpenSpec.ofChange Rows.storeFullSpec) Tryz.ownK started (by kernel_rfl) Tryz.func9
    (witness_row_at (enc := enc) (C := Tryz.checked) false (laidWorld os) #[.int .i64 0, .slice none 0 0, .slice none 0 0] rfl (by kernel_rfl) (by kernel_rfl) (by kernel_rfl)
      (OpenSpec.preRow_of_cond 8 hx (by kernel_rfl) (fun k hk => by cases hk) (by kernel_rfl) (laid_met os _))) ?_
  intro W base args ds gs before hval hW _ _ _ hL _ _
  exact storeFull_contract H enc W base args ds gs before hval hW hL
theorem storeFull_said : Rows.StoreFullSaid :=
  OpenClaim.holds_of_cond 9 Tryz.f9 rfl rfl rfl rfl rfl rfl rfl ⟨rfl, rfl, rfl, rfl, rfl⟩ rfl rfl rfl rfl rfl (by kernel_rfl) Tryz.func9 (by kernel_rfl)
    (of_decide_eq_true (by kernel_rfl)) (by unfold Func.isWrapper; first | (rw [if_pos (by decide +kernel)]; kernel_rfl) | (rw [if_neg (by decide +kernel)]; exact ⟨rfl, rfl⟩))
    (fun os started H enc _ F => by rw [OpenClaim.pre_eq_preRow]; exact storeFull_lifted os started H enc F)
theorem storeFullCard_holds : Rows.StoreFullCardSaid :=
  Claim7.holds_tied_plain_at .later [] [.handle, .data] true (true, "d2c66192a8206f233295009093e67126f72cb59b0c21e1b9761392474d37febc") true
    storeFull_said (fun _ h => by cases h) (by kernel_rfl) (fun _ h => by cases h) storeFull_row_tie rfl ⟨rfl, rfl⟩ (by kernel_rfl) rfl
    (fun f fn hf hfn => by
      obtain rfl : f = 9 := Option.some.inj ((show Tryz.prog.funcNamed "guilloche/guillochelaw06.StoreFull" = some 9 by kernel_rfl).symm.trans hf) |>.symm
      obtain rfl : fn = Tryz.f9 := (Option.some.inj (Tryz.func9.symm.trans hfn)).symm
      exact ⟨by kernel_rfl, fun j t ht => by
        rw [Tryz.params9] at ht
        have hm : t ∈ [3, 22, 22] := by simpa using Array.mem_of_getElem? ht
        have hall : ([3, 22, 22].all fun u => !Tryz.prog.wantsStandIn u) = true := by kernel_rfl
        exact (show Tryz.prog.wantsStandIn t = false by simpa using List.all_eq_true.1 hall t hm)⟩)
    (by kernel_rfl)
end
end Go.Proofs.YtneojlgbcaejmaaGreatDoor
