/- Parts of the proof, one behind the other: StoreN, StoreO, StoreQ, StoreR, StoreS, OrderP. Each is under no condition but those that it states. -/
import Derived.Test.YtneojlgbcaejmaaGreatDoorBa36
import Derived.Test.YtneojlgbcaejmaaGreatDoorBa38
import Derived.Test.YtneojlgbcaejmaaGreatDoorBa41
import Derived.Test.YtneojlgbcaejmaaGreatDoorBa42
import Derived.WalkKit
import Derived.ProofKit
import Derived.OpenShut
import Derived.Lib.SmallJoins
import Derived.Deep.DeepHandedRow
import Derived.Lay
import Derived.Carry
import Derived.ChangeMaps5
/- law 06: works. -/
namespace Go.Proofs.YtneojlgbcaejmaaGreatDoor
section
open Go Go.RowKit
set_option linter.unusedSimpArgs false
set_option linter.unusedVariables false
attribute [local go_sem] Oper.semAt_some
def lfN : NodeT := ⟨1, ⟨#[]⟩, ⟨#[118]⟩, noRefs 16⟩
theorem lf_good : GoodW (InlD 0) lfN := GoodW.leaf ⟨#[]⟩ ⟨#[118]⟩ (by decide) (by decide) (by decide)
def lfT : ByteArray := nodeB lfN
theorem lf_is : IsNode lfT lfN := ⟨rfl, 0, lf_good⟩
theorem lf_hashes (w : World) : hashesT (nodeOf lfT) = [] := by
  rw [isNode_inj w (nodeOf_is lf_is) lf_is]; exact hashes_no 16
theorem lf_shut (w : World) {L : List ByteArray} (hL : ∀ x ∈ L, x = lfT) (hl : L.length ≤ 1000) : ShutL L :=
  ⟨fun t ht => (by rw [hL t ht]; exact ⟨lfN, lf_is⟩), fun t ht h hh => (by rw [hL t ht, lf_hashes w] at hh; cases hh), hl⟩
/-- The leaf is put again: held once more. -/
theorem leaf_again {G : List Nd5} {L : List ByteArray} {t : ByteArray} (hG : G.map kvI = readG L) (hL : ∀ x ∈ L, x = t) (h0 : hashesT (nodeOf t) = []) (b : Nat) :
    bumpH (shaB t).data.toList (bumps (([] : List ByteArray).flatMap (refsO G)) ([((shaB t).data.toList, b, ⟨t, [], 0, 1⟩)] ++ picks G [])) = [((shaB t).data.toList, b, ⟨t, [], 0, 2⟩)] := by
  show bumpH (shaB t).data.toList [((shaB t).data.toList, b, ⟨t, [], 0, 1⟩)] = _
  unfold bumpH
  rw [List.map_cons, List.map_nil, if_pos rfl]
  rfl
theorem new1 {w w' : World} {s bm : Nat} {L : List ByteArray} {t : ByteArray} {e : Ending} (hL : ∀ x ∈ L, x = t) (h0 : hashesT (nodeOf t) = []) (hm : t ∈ L) (h : AddPost w s bm 3 [] L t e w') :
    ∃ b, w.heap.size ≤ b ∧ e = .returned (.tuple #[.string (shaB t), .int .i64 0]) ∧ StoreAt w' s bm 3 [((shaB t).data.toList, b, ⟨t, [], 0, 1⟩)] ∧ Keeps (fun z => z = bm) w w' := by
  obtain ⟨G, M, hG, hnew, hP, h⟩ := h
  have hM := path_leaf hG hL h0 hP
  have hF : frK [] M = [shaB t] := by rw [hM, frK_one]; rfl
  rw [hF] at h
  rcases h with ⟨h, _⟩ | ⟨_, he, hS, hK⟩
  · exact absurd h (by show ¬ (3 : Int) - ((0 : Nat) : Int) < ((1 : Nat) : Int); decide)
  · obtain ⟨b, hb, e2⟩ := leaf_new hG hL h0 hm
    rw [e2] at hS
    obtain ⟨y, hy, rfl⟩ := List.mem_map.1 hb
    exact ⟨y.2.1, hnew y hy, he, hS, hK.mono (fun z _ g => g.elim id (fun g => by cases g))⟩
theorem again1 {w w' : World} {s bm b : Nat} {L : List ByteArray} {t : ByteArray} {e : Ending} (hL : ∀ x ∈ L, x = t) (h0 : hashesT (nodeOf t) = []) (h : AddPost w s bm 3 [((shaB t).data.toList, b, ⟨t, [], 0, 1⟩)] L t e w') :
    e = .returned (.tuple #[.string (shaB t), .int .i64 0]) ∧ StoreAt w' s bm 3 [((shaB t).data.toList, b, ⟨t, [], 0, 2⟩)] ∧ Keeps (fun z => z = bm ∨ z = b) w w' := by
  obtain ⟨G, M, hG, hnew, hP, h⟩ := h
  have hM := path_leaf hG hL h0 hP
  have hF : frK [((shaB t).data.toList, b, ⟨t, [], 0, 1⟩)] M = [] := by
    rw [hM, frK_one, if_neg]
    unfold atL; simp
  rw [hF] at h
  rcases h with ⟨h, _⟩ | ⟨_, he, hS, hK⟩
  · exact absurd h (by show ¬ (3 : Int) - ((1 : Nat) : Int) < ((0 : Nat) : Int); decide)
  · rw [leaf_again hG hL h0 b] at hS
    exact ⟨he, hS, hK.mono (fun z _ g => g.elim .inl (fun g => .inr (by simpa using g)))⟩
theorem one_all (kx : Key) (b : Nat) (t : ByteArray) (n : Int) (h0 : 0 ≤ n) (h1 : n ≤ 1000000000) : ∀ x ∈ [(kx, b, (⟨t, [], 0, n⟩ : It))], 0 ≤ x.2.2.used ∧ x.2.2.used ≤ 1000000000 ∧ 0 ≤ x.2.2.held ∧ x.2.2.held ≤ 1000000000 := by
  intro x hx
  rw [List.mem_singleton] at hx
  subst hx
  exact ⟨Int.le_refl _, (show (0 : Int) ≤ 1000000000 by decide), h0, h1⟩
set_option maxRecDepth 100000 in
set_option maxHeartbeats 8000000 in
theorem works6_c (w : World) (hc : Cubes w) : Calls Tryz.prog 24 #[] w fun e w' => e = .returned (.bool true) ∧ Ext w w' := by
  have HC := Lib.hid hc
  clear hc
  go_enter Tryz.func24, Tryz.ntmps24
  go_wp2_with fail
  refine (snew_c w 3).mono ?_
  rintro e w1 ⟨s, bm, rfl, hE, hS, hb1, hb2, hb3⟩
  have HE1 := Lib.hid hE
  have HS1 := Lib.hid (show StoreAt w1 s bm 3 [] from hS)
  have HNB := Lib.hid (And.intro hb1 hb2)
  clear hE hS hb1 hb2 hb3
  go_wp2_with fail
  refine (show Calls Tryz.prog 46 #[lfN.V] w1 fun e w' => e = .returned (.tuple #[.string lfT, .int .i64 0]) ∧ Ext w1 w' from nput_c (inlP 0) w1 lfN lf_good).mono ?_
  rintro e w2 ⟨rfl, hE⟩
  have HE2 := Lib.hid (HE1.out.trans hE)
  have HS2 := Lib.hid (HS1.out.ext hE)
  have H0 := Lib.hid (lf_hashes w)
  have HSH := Lib.hid (fun L hL hl => lf_shut w (L := L) hL hl)
  obtain ⟨t, ht⟩ : ∃ t, t = lfT := ⟨_, rfl⟩
  rw [← ht] at H0 HSH ⊢
  clear hE HS1 HE1 ht
  go_wp2_with fail
  have hx3 : Ext w2 (w2.alloc (.cells #[.string t] 9)) := (ExtR w2).alloc _
  refine (add_c _ (HC.out.ext (HE2.out.trans hx3)) s bm 3 [] (HS2.out.ext hx3) _ [t] (rds_lit w2 [t] 9) (HSH.out [t] (by simp) (by simp)) t rfl (by decide) (by decide) (by simp) (fun x hx => by cases hx) (fun x hx => by cases hx)).mono ?_
  rintro e w4 hP
  obtain ⟨b, hbn, rfl, hS4, hK4⟩ := new1 (by simp) H0.out (by simp) hP
  have HS4 := Lib.hid hS4
  have HE4 := Lib.hid ((HE2.out.trans hx3).trans' hK4 (fun z hz e => by have e : z = bm := e; have := HNB.out.1; omega))
  have HBN := Lib.hid (show w.heap.size ≤ b from Nat.le_trans (HE2.out.trans hx3).size hbn)
  clear hP hS4 hK4 hx3 hbn HS2 HE2
  obtain ⟨rt, hrt⟩ : ∃ rt, rt = shaB t := ⟨_, rfl⟩
  have HRT := Lib.hid hrt
  rw [← hrt]
  clear hrt
  go_wp2_with fail
  have hx5 : Ext w4 (w4.alloc (.cells #[.string t, .string t] 9)) := (ExtR w4).alloc _
  refine (add_c _ (HC.out.ext (HE4.out.trans hx5)) s bm 3 _ (HS4.out.ext hx5) _ [t, t] (rds_lit w4 [t, t] 9) (HSH.out [t, t] (by simp) (by simp)) t rfl (by decide) (by decide) (by simp) (fun x hx => ⟨(one_all _ _ _ _ (by decide) (by decide) x hx).1, (one_all _ _ _ _ (by decide) (by decide) x hx).2.1⟩) (fun x hx => (one_all _ _ _ _ (by decide) (by decide) x hx).2.2)).mono ?_
  rintro e w6 hP
  obtain ⟨rfl, hS6, hK6⟩ := again1 (by simp) H0.out hP
  have HE6 := Lib.hid ((HE4.out.trans hx5).trans' hK6 (fun z hz e => by have := HNB.out.1; have := HBN.out; rcases e with e | e <;> omega))
  rw [← HRT.out] at hS6 ⊢
  have HS6 := Lib.hid hS6
  clear hP hS6 hK6 hx5 HS4 HE4
  go_wp2_with fail
  have hat : ∀ n : Int, atL [(rt.data.toList, b, (⟨t, [], 0, n⟩ : It))] rt.data.toList = some (rt.data.toList, b, ⟨t, [], 0, n⟩) := fun n => by unfold atL; simp
  refine (drop_more w6 s bm 3 _ HS6.out (one_all _ _ _ _ (by decide) (by decide)) rt _ (hat 2) (by show (1 : Int) ≤ 2; decide) (by show (2 : Int) ≤ 0 + 2; decide)).mono ?_
  rintro e w7 ⟨rfl, hS7, hK7⟩
  have e7 : [(rt.data.toList, b, (⟨t, [], 0, 2⟩ : It))].map (setB 3 b ((2 : Int) - 1)) = [(rt.data.toList, b, (⟨t, [], 0, 1⟩ : It))] := by
    rw [List.map_cons, List.map_nil]; unfold setB; rw [if_pos rfl]; rfl
  have hS7 : StoreAt w7 s bm 3 [(rt.data.toList, b, (⟨t, [], 0, 1⟩ : It))] := by rw [← e7]; exact hS7
  have HS7 := Lib.hid hS7
  have HE7 := Lib.hid (HE6.out.trans' hK7 (fun z hz e => by have e : z = b := e; have := HBN.out; omega))
  have HAT := Lib.hid hat
  clear hS7 hK7 e7 HS6 HE6 hat
  go_wp2_with fail
  refine (scount_c w7 s bm 3 _ rt HS7.out (fun x hx => by have := one_all _ _ _ _ (by decide) (by decide) x hx; omega)).mono ?_
  rintro e w8 ⟨rfl, hE⟩
  rw [HAT.out 1, show countO (some (rt.data.toList, b, (⟨t, [], 0, 1⟩ : It))) = 1 from rfl]
  have HS8 := Lib.hid (HS7.out.ext hE)
  have HE8 := Lib.hid (HE7.out.trans hE)
  clear hE HS7 HE7
  go_wp2_with fail
  refine (sget_c w8 s bm 3 _ rt HS8.out).mono ?_
  rintro e w9 ⟨rfl, hE⟩
  rw [HAT.out 1, show optV ((some (rt.data.toList, b, (⟨t, [], 0, 1⟩ : It))).map (·.2.2.text)) = optV (some t) from rfl]
  have HS9 := Lib.hid (HS8.out.ext hE)
  have HE9 := Lib.hid (HE8.out.trans hE)
  clear hE HS8 HE8
  unfold optV
  go_wp2_with fail
  refine (sroom_c w9 s bm 3 _ HS9.out (by decide) (by decide) (by simp)).mono ?_
  rintro e w10 ⟨rfl, hE⟩
  rw [show (3 : Int) - (([(rt.data.toList, b, (⟨t, [], 0, 1⟩ : It))] : List Nd5).length : Int) = 2 from rfl]
  have HS10 := Lib.hid (HS9.out.ext hE)
  have HE10 := Lib.hid (HE9.out.trans hE)
  clear hE HS9 HE9
  go_wp2_with fail
  refine (drop_last w10 s bm 3 _ HS10.out (one_all _ _ _ _ (by decide) (by decide)) rt _ (HAT.out 1) rfl rfl rfl).mono ?_
  rintro e w11 ⟨rfl, hS11, hK11⟩
  have e11 : delL ([(rt.data.toList, b, (⟨t, [], 0, 1⟩ : It))].map (setB 3 b ((1 : Int) - 1))) rt.data.toList = [] := by
    rw [List.map_cons, List.map_nil]; unfold setB delL; rw [if_pos rfl]; simp
  have hS11 : StoreAt w11 s bm 3 [] := by rw [← e11]; exact hS11
  have HS11 := Lib.hid hS11
  have HE11 := Lib.hid (HE10.out.trans' hK11 (fun z hz e => by have := HNB.out.1; have := HBN.out; have e : z = b ∨ z = bm := e; omega))
  clear hS11 hK11 e11 HS10 HE10 HAT
  go_wp2_with fail
  refine (sget_c w11 s bm 3 [] rt HS11.out).mono ?_
  rintro e w12 ⟨rfl, hE⟩
  rw [show optV ((atL [] rt.data.toList).map (·.2.2.text)) = optV none from rfl]
  have HS12 := Lib.hid (HS11.out.ext hE)
  have HE12 := Lib.hid (HE11.out.trans hE)
  clear hE HS11 HE11
  unfold optV
  go_wp2_with fail
  refine (add_nil w12 _ none 0).mono ?_
  rintro e w13 ⟨rfl, hE⟩
  have HS13 := Lib.hid (HS12.out.ext hE)
  have HE13 := Lib.hid (HE12.out.trans hE)
  clear hE HS12 HE12
  go_wp2_with fail
  have hx14 : Ext w13 (w13.alloc (.cells #[.string t] 9)) := (ExtR w13).alloc _
  have hrr : (rt == rt) = true := by rw [ba_beq]; exact decide_eq_true rfl
  have htt : (t == t) = true := by rw [ba_beq]; exact decide_eq_true rfl
  refine (of_t _ _ [t] (by simp) (rds_lit w13 [t] 9) (HC.out.ext (HE13.out.trans hx14))).mono ?_
  rintro e w14 ⟨rfl, hE⟩
  rw [catB_one, ← HRT.out]
  have HS14 := Lib.hid ((HS13.out.ext hx14).ext hE)
  have HE14 := Lib.hid ((HE13.out.trans hx14).trans hE)
  clear hE hx14 HS13 HE13
  go_wp2_with fail
  refine (drop_none w14 s bm 3 [] HS14.out rt rfl).mono ?_
  rintro e w15 ⟨rfl, hE⟩
  have HS15 := Lib.hid (HS14.out.ext hE)
  have HE15 := Lib.hid (HE14.out.trans hE)
  clear hE HS14 HE14
  go_wp2_with fail
  refine (shashes_c w15 s bm 3 [] HS15.out (by simp)).mono ?_
  rintro e w16 ⟨v, rfl, hR⟩
  obtain ⟨va, vc, hv⟩ := hR.sl
  have hv : v = .slice va 0 vc := hv
  subst hv
  have HS16 := Lib.hid (HS15.out.ext hR.ext)
  have HE16 := Lib.hid (HE15.out.trans hR.ext)
  clear hR HS15 HE15
  go_wp2_with fail
  refine (sroom_c w16 s bm 3 [] HS16.out (by decide) (by decide) (by simp)).mono ?_
  rintro e w17 ⟨rfl, hE⟩
  rw [show (3 : Int) - ((([] : List Nd5).length : Nat) : Int) = 3 from rfl]
  have HS17 := Lib.hid (HS16.out.ext hE)
  have HE17 := Lib.hid (HE16.out.trans hE)
  clear hE HS16 HE16
  go_wp2_with fail
  refine (sheld_c w17 s bm 3 [] rt HS17.out).mono ?_
  rintro e w18 ⟨rfl, hE⟩
  rw [show heldO (atL ([] : List Nd5) rt.data.toList) = 0 from rfl]
  have HE18 := Lib.hid (HE17.out.trans hE)
  clear hE HS17 HE17
  go_wp2_with fail
  go_ret
  exact ⟨rfl, HE18.out⟩
end
end Go.Proofs.YtneojlgbcaejmaaGreatDoor
/- law 06: StoreFull, its walk. -/
namespace Go.Proofs.YtneojlgbcaejmaaGreatDoor
section
open Go Go.RowKit
set_option linter.unusedSimpArgs false
set_option linter.unusedVariables false
attribute [local go_sem] Oper.semAt_some
/-- A store made since W0, with bounds of what it counts. -/
structure StS (W0 : World) (s bm : Nat) (room n : Int) (S : List Nd5) (W : World) : Prop where
  st : StoreAt W s bm room S
  bd : ∀ x ∈ S, 0 ≤ x.2.2.used ∧ x.2.2.used ≤ n ∧ 0 ≤ x.2.2.held ∧ x.2.2.held ≤ n
  new : ∀ x ∈ S, W0.heap.size ≤ x.2.1
  ext : Ext W0 W
  bnew : W0.heap.size ≤ bm
  room : (S.length : Int) ≤ room
theorem StS.grow {W0 W W' : World} {s bm : Nat} {room n : Int} {S : List Nd5} (h : StS W0 s bm room n S W) (k : Ext W W') : StS W0 s bm room n S W' := ⟨h.st.ext k, h.bd, h.new, h.ext.trans k, h.bnew, h.room⟩
def AddE (room : Int) (S S' : List Nd5) (L : List ByteArray) (top : ByteArray) (e : Ending) : Prop :=
  ∃ (r : ByteArray) (g : Int), e = .returned (.tuple #[.string r, .int .i64 g]) ∧ ((g = 3 ∧ S' = S ∧ room < (S.length : Int) + (L.length : Int)) ∨ (g = 0 ∧ r = shaB top))
theorem StoreAt.lts {W : World} {s bm : Nat} {room : Int} {S : List Nd5} (h : StoreAt W s bm room S) : ∀ z, (z = bm ∨ z ∈ S.map (·.2.1)) → z < W.heap.size := by
  rintro z (rfl | hz)
  · obtain ⟨es, ck, h1, _⟩ := h.mp.mp
    exact h1.lt
  · obtain ⟨y, hy, rfl⟩ := List.mem_map.1 hz
    obtain ⟨rv, h1, _⟩ := (h.mp.items y hy).cells
    exact h1.lt
theorem SRow.over {F : BSet} {w0 w w' : World} {v : Value} {n : Nat} {xs : List ByteArray} (h : SRow w0 w v n xs) (k : Keeps F w w') (hF : ∀ b, F b → b < w0.heap.size) : RdS w' v xs :=
  own_rd (own_keeps h.own k fun b hb hf => by have := h.new b hb; have := hF b hf; omega)
theorem add_st {W0 W W' : World} {s bm : Nat} {room n : Int} {S : List Nd5} {L : List ByteArray} {top : ByteArray} {e : Ending} (h : StS W0 s bm room n S W) (hn : 0 ≤ n) (hL : ShutL L) (hl : L.length ≤ 200) (hp : AddPost W s bm room S L top e W') :
    ∃ S', StS W0 s bm room (n + 3201) S' W' ∧ S'.length ≤ S.length + L.length ∧ Keeps (fun z => z = bm ∨ z ∈ S.map (·.2.1)) W W' ∧ AddE room S S' L top e := by
  obtain ⟨G, M, hG, hnew, hP, hc⟩ := hp
  obtain ⟨l1, l2⟩ := addS_len S G M top L hG hP.inG
  rcases hc with ⟨h1, he, hE⟩ | ⟨h1, he, hS, hK⟩
  · refine ⟨S, ⟨h.st.ext hE, fun x hx => ?_, h.new, h.ext.trans hE, h.bnew, h.room⟩, by omega, hE.mono (fun _ _ g => g.elim), _, 3, he, .inl ⟨rfl, rfl, by omega⟩⟩
    have := h.bd x hx; omega
  · have hS : StoreAt W' s bm room (addS S G M top) := hS
    have hb := addS_bounds (M := M) (top := top) h.bd hn hG (given_shut hG hL) hP.inG
    refine ⟨addS S G M top, ⟨hS, fun x hx => ?_, fun x hx => ?_, h.ext.trans' hK (fun z hz e => ?_), h.bnew, by rw [l1]; omega⟩, by omega, hK, _, 0, he, .inr ⟨rfl, rfl⟩⟩
    · have := hb x hx; omega
    · rw [addS_is] at hx
      obtain ⟨y, hy, rfl⟩ := List.mem_map.1 hx
      show W0.heap.size ≤ y.2.1
      rcases List.mem_append.1 hy with hy | hy
      · exact h.new y hy
      · exact Nat.le_trans h.ext.size (hnew y (picks_mem hy).1)
    · rcases e with e | e
      · have := h.bnew; omega
      · obtain ⟨y, hy, e⟩ := List.mem_map.1 e
        have := h.new y hy; omega
/-- Nodes, of any entries. -/
def NodesP (l : List Pair) (w : World) (e : Ending) (w' : World) : Prop := ∃ a n c k, e = .returned (.tuple #[.slice a n c, .int .i64 k]) ∧ Ext w w' ∧ k = checkN l ∧ (checkN l = 0 → n = (textsL l).length ∧ SRow w w' (.slice a n c) n (textsL l))
theorem nodes_any (w : World) (hc : Cubes w) (v : Value) (l : List Pair) (hv : RdP w v l) (hn : l.length ≤ 9223372036854775807) (hs : SmallP l) :
    Calls Tryz.prog 27 #[v] w (NodesP l w) := by
  by_cases h : checkN l = 0
  · refine (nodes_ok w v l hc hv h).mono ?_
    rintro e w' ⟨u, n, rfl, hR⟩
    have hR : SRow w w' u n (textsL l) := hR
    have hln : (textsL l).length = n := by have := hR.len; simpa using this
    obtain ⟨a, c, rfl⟩ := hR.sl
    exact ⟨a, n, c, 0, rfl, hR.ext, h.symm, fun _ => ⟨hln.symm, hR⟩⟩
  · refine (nodes_bad w v l hv hn hs h).mono ?_
    rintro e w' ⟨rfl, hE⟩
    exact ⟨none, 0, 0, checkN l, rfl, hE, rfl, fun h0 => absurd h0 h⟩
theorem shut_of (w : World) {l : List Pair} (h : checkN l = 0) : ShutL (textsL l) := texts_shut w h (by have := textsL_len h; exact Nat.le_trans this (by decide))
set_option maxRecDepth 100000 in
set_option maxHeartbeats 8000000 in
theorem full_c (w : World) (hc : Cubes w) (room : Int) (hr : room ≤ 9223372036854775807) (hr2 : -9223372036854775808 ≤ room) (v u : Value) (l m : List Pair) (hv : RdP w v l) (hu : RdP w u m) (hn : l.length ≤ 9223372036854775807) (hs : SmallP l) (hn2 : m.length ≤ 9223372036854775807) (hs2 : SmallP m) :
    Calls Tryz.prog 9 #[.int .i64 room, v, u] w fun e w' => e = .returned (.bool true) ∧ Ext w w' := by
  have HC := Lib.hid hc
  have HV := Lib.hid hv
  have HU := Lib.hid hu
  have HSS := Lib.hid (And.intro hs hs2)
  have HNN := Lib.hid (And.intro hn hn2)
  obtain ⟨va, vc, hsl⟩ := hv.sl
  subst hsl
  obtain ⟨ua, uc, hsl⟩ := hu.sl
  subst hsl
  clear hc hv hu hs hs2 hn hn2
  go_enter Tryz.func9, Tryz.ntmps9
  go_wp2_with fail
  refine (works6_c w HC.out).mono ?_
  rintro e w1 ⟨rfl, hE⟩
  have HE1 := Lib.hid hE
  clear hE
  go_wp2_with fail
  refine (snew_c w1 room).mono ?_
  rintro e w2 ⟨s, bm, rfl, hE, hS, hb1, hb2, hb3⟩
  have HE2 := Lib.hid (HE1.out.trans hE)
  obtain ⟨rm, hrm⟩ : ∃ rm, rm = max room 0 := ⟨_, rfl⟩
  have hrm0 : 0 ≤ rm ∧ rm ≤ 9223372036854775807 := by omega
  rw [← hrm] at hS
  have HS2 := Lib.hid (show StS w s bm rm 0 [] w2 from ⟨hS, by simp, by simp, HE2.out, Nat.le_trans HE1.out.size hb1, by simp; omega⟩)
  have HRM := Lib.hid hrm
  clear hE hS hb1 hb2 hb3 HE1 hrm
  go_wp2_with fail
  refine (few5_c w2 _ l (HV.out.ext HE2.out) HNN.out.1 HSS.out.1).mono ?_
  rintro e w3 ⟨rfl, hE⟩
  have HS3 := Lib.hid (HS2.out.grow hE)
  clear hE HS2 HE2
  have hno : ∀ x : Value, True := fun _ => trivial
  cases hfa : fewB l with
  | false =>
    go_wp2_with fail
    refine (nodes_any w3 (HC.out.ext HS3.out.ext) _ l (HV.out.ext HS3.out.ext) HNN.out.1 HSS.out.1).mono ?_
    rintro e w4 ⟨xa, xn, xc, k1, rfl, hE, _, _⟩
    have HS4 := Lib.hid (HS3.out.grow hE)
    clear hE HS3
    go_wp2_with fail
    refine (nodes_any w4 (HC.out.ext HS4.out.ext) _ m (HU.out.ext HS4.out.ext) HNN.out.2 HSS.out.2).mono ?_
    rintro e w5 ⟨ya, yn, yc, k2, rfl, hE, _, _⟩
    have HS5 := Lib.hid (HS4.out.grow hE)
    clear hE HS4
    go_wp2_with fail
    go_ret
    exact ⟨rfl, HS5.out.ext⟩
  | true =>
    go_wp2_with fail
    refine (few5_c w3 _ m (HU.out.ext HS3.out.ext) HNN.out.2 HSS.out.2).mono ?_
    rintro e w3' ⟨rfl, hE⟩
    have HS3' := Lib.hid (HS3.out.grow hE)
    clear hE HS3
    cases hfb : fewB m with
    | false =>
      go_wp2_with fail
      refine (nodes_any w3' (HC.out.ext HS3'.out.ext) _ l (HV.out.ext HS3'.out.ext) HNN.out.1 HSS.out.1).mono ?_
      rintro e w4 ⟨xa, xn, xc, k1, rfl, hE, _, _⟩
      have HS4 := Lib.hid (HS3'.out.grow hE)
      clear hE HS3'
      go_wp2_with fail
      refine (nodes_any w4 (HC.out.ext HS4.out.ext) _ m (HU.out.ext HS4.out.ext) HNN.out.2 HSS.out.2).mono ?_
      rintro e w5 ⟨ya, yn, yc, k2, rfl, hE, _, _⟩
      have HS5 := Lib.hid (HS4.out.grow hE)
      clear hE HS4
      go_wp2_with fail
      go_ret
      exact ⟨rfl, HS5.out.ext⟩
    | true =>
      go_wp2_with fail
      refine (nodes_any w3' (HC.out.ext HS3'.out.ext) _ l (HV.out.ext HS3'.out.ext) HNN.out.1 HSS.out.1).mono ?_
      rintro e w4 ⟨xa, xn, xc, k1, rfl, hE, hk1, hx⟩
      have HS4 := Lib.hid (HS3'.out.grow hE)
      have HX4 := Lib.hid hx
      have HK1 := Lib.hid hk1
      have hE4 := hE.size
      clear hE hx hk1
      go_wp2_with fail
      refine (nodes_any w4 (HC.out.ext HS4.out.ext) _ m (HU.out.ext HS4.out.ext) HNN.out.2 HSS.out.2).mono ?_
      rintro e w5 ⟨ya, yn, yc, k2, rfl, hE, hk2, hy⟩
      have HS5 := Lib.hid (HS4.out.grow hE)
      have HX5 := Lib.hid (fun h => And.intro (HX4.out h).1 ((HX4.out h).2.mono hE))
      have HLT := Lib.hid (fun z hz => HS3'.out.st.lts z hz)
      have HZ := Lib.hid hE4
      have HY5 := Lib.hid hy
      have HK2 := Lib.hid hk2
      clear hE HS4 HS3' hy hk2 HX4 hE4
      by_cases h1 : k1 = 0
      case neg =>
        have hne2 : (k1 != 0) = true := by simpa using h1
        go_wp2_with fail
        go_ret
        exact ⟨rfl, HS5.out.ext⟩
      by_cases h2 : k2 = 0
      case neg =>
        subst h1
        have hne2 : (k2 != 0) = true := by simpa using h2
        go_wp2_with fail
        go_ret
        exact ⟨rfl, HS5.out.ext⟩
      subst h1
      subst h2
      have HA := Lib.hid (show checkN l = 0 from HK1.out.symm)
      have HB := Lib.hid (show checkN m = 0 from HK2.out.symm)
      have hxx := HX5.out HA.out
      have hyy := HY5.out HB.out
      have HX := Lib.hid hxx.2
      have HY := Lib.hid hyy.2
      have HLN := Lib.hid (And.intro hxx.1 (And.intro hyy.1 (And.intro (textsL_len HA.out) (textsL_len HB.out))))
      clear hxx hyy HK1 HK2 HX5 HY5
      go_wp2_with fail
      refine (add_c w5 (HC.out.ext HS5.out.ext) s bm rm [] HS5.out.st _ (textsL l) (SRow.rd HX.out) (shut_of w HA.out) (trieT l).text (texts HA.out).head hrm0.1 hrm0.2 (by simp) (fun x hx => by cases hx) (fun x hx => by cases hx)).mono ?_
      rintro e w6 hP
      obtain ⟨S1, hS1, hl1, hK, r1, g1, rfl, _⟩ := add_st HS5.out (Int.le_refl 0) (shut_of w HA.out) (by have := textsL_len HA.out; omega) hP
      have HS6 := Lib.hid hS1
      have HL6 := Lib.hid (show S1.length ≤ 121 by have := textsL_len HA.out; simp at hl1; omega)
      have HY6 := Lib.hid (HY.out.over hK (fun b hb => by
        have h1 : b < w3'.heap.size := HLT.out b hb
        have := HZ.out; omega))
      clear hP hS1 hl1 hK HS5 HX
      go_wp2_with fail
      refine (shashes_c w6 s bm rm S1 HS6.out.st (by have := HL6.out; omega)).mono ?_
      rintro e w7 ⟨wv, rfl, hW⟩
      obtain ⟨wa, wc, hsl⟩ := hW.sl
      subst hsl
      have HW7 := Lib.hid hW
      have HS7 := Lib.hid (HS6.out.grow hW.ext)
      have HLT6 := Lib.hid HS6.out.st.lts
      have HY7 := Lib.hid (HY6.out.ext hW.ext)
      clear hW HS6 HY6
      go_wp2_with fail
      refine (add_c w7 (HC.out.ext HS7.out.ext) s bm rm S1 HS7.out.st _ (textsL m) HY7.out (shut_of w HB.out) (trieT m).text (texts HB.out).head hrm0.1 hrm0.2 (by have := HL6.out; omega) (fun x hx => by have := HS7.out.bd x hx; omega) (fun x hx => by have := HS7.out.bd x hx; omega)).mono ?_
      rintro e w8 hP
      obtain ⟨S2, hS2, hl2, hK, r2, g2, rfl, hg⟩ := add_st HS7.out (by decide) (shut_of w HB.out) (by have := textsL_len HB.out; omega) hP
      have HS8 := Lib.hid hS2
      have HL8 := Lib.hid (show S2.length ≤ 242 by have := textsL_len HB.out; have := HL6.out; omega)
      have HW8 := Lib.hid (HW7.out.over hK HLT6.out)
      have HG := Lib.hid hg
      clear hP hS2 hl2 hK HS7 HY7 HLT6
      go_wp2_with fail
      refine (shashes_c w8 s bm rm S2 HS8.out.st (by have := HL8.out; omega)).mono ?_
      rintro e w9 ⟨nv, rfl, hN⟩
      obtain ⟨na, nc, hsl⟩ := hN.sl
      subst hsl
      have HS9 := Lib.hid (HS8.out.grow hN.ext)
      have HW9 := Lib.hid (HW8.out.ext hN.ext)
      clear hN HS8 HW8
      obtain ⟨n2, hn2⟩ : ∃ n2, n2 = S2.length := ⟨_, rfl⟩
      obtain ⟨n1, hn1⟩ : ∃ n1, n1 = S1.length := ⟨_, rfl⟩
      rw [← hn1, ← hn2]
      have hb1 : n2 ≤ 242 := by rw [hn2]; exact HL8.out
      have hb2 : n1 ≤ 121 := by rw [hn1]; exact HL6.out
      have HNM := Lib.hid (And.intro hn1 hn2)
      have c1 : ¬ max room 0 < (n2 : Int) := by rw [← HRM.out, hn2]; have := HS9.out.room; omega
      obtain ⟨q, hq⟩ : ∃ q : Int, max room 0 - (n2 : Int) = q := ⟨_, rfl⟩
      have c2 : 0 ≤ q ∧ q ≤ 9223372036854775807 := by rw [← hq]; omega
      have HQ := Lib.hid (show rm - (S2.length : Int) = q by rw [HRM.out, ← hn2]; exact hq)
      have hyl : yn ≤ 121 := by have := HLN.out; omega
      have hqq : (q == q) = true := by simp
      clear hn1 hn2
      rcases HG.out with ⟨rfl, hS, hroom⟩ | ⟨rfl, hr⟩
      · have c3 : max room 0 < (n1 : Int) + (yn : Int) := by have h1 := HLN.out.2.1; have h2 := HNM.out.1; rw [← HRM.out, h1, h2]; exact hroom
        have HS := Lib.hid hS
        clear hS hroom
        go_wp2_with fail
        refine (shashes_c w9 s bm rm S2 HS9.out.st (by have := HL8.out; omega)).mono ?_
        rintro e w10 ⟨mv, rfl, hN⟩
        have HS10 := Lib.hid (HS9.out.grow hN.ext)
        have HW10 := Lib.hid (HW9.out.ext hN.ext)
        have HM10 := Lib.hid (SRow.rd hN)
        have hlb : (baL (sortS (S2.map (·.1)))).length ≤ 1000000 := by
          have h1 := hN.len
          rw [List.length_map] at h1
          have := HL8.out
          omega
        have HLB := Lib.hid hlb
        clear hN HS9 HW9 hlb
        go_wp2_with fail
        have hw := HW10.out
        rw [← HNM.out.1, ← HS.out] at hw
        refine (same2_c w10 _ mv (baL (sortS (S2.map (·.1)))) (baL (sortS (S2.map (·.1)))) hw HM10.out HLB.out HLB.out).mono ?_
        rintro e w11 ⟨rfl, hE⟩
        rw [decide_eq_true rfl]
        have HS11 := Lib.hid (HS10.out.grow hE)
        clear hE HS10 hw
        go_wp2_with fail
        refine (sroom_c w11 s bm rm S2 HS11.out.st hrm0.1 hrm0.2 (by have := HL8.out; omega)).mono ?_
        rintro e w12 ⟨rfl, hE⟩
        rw [HQ.out]
        have HS12 := Lib.hid (HS11.out.grow hE)
        clear hE HS11
        go_wp2_with fail
        go_ret
        exact ⟨rfl, HS12.out.ext⟩
      · clear hr
        go_wp2_with fail
        refine (sroom_c w9 s bm rm S2 HS9.out.st hrm0.1 hrm0.2 (by have := HL8.out; omega)).mono ?_
        rintro e w10 ⟨rfl, hE⟩
        rw [HQ.out]
        have HS10 := Lib.hid (HS9.out.grow hE)
        clear hE HS9
        go_wp2_with fail
        go_ret
        exact ⟨rfl, HS10.out.ext⟩
end
end Go.Proofs.YtneojlgbcaejmaaGreatDoor
/- law 06: two maps in one store. -/
namespace Go.Proofs.YtneojlgbcaejmaaGreatDoor
section
open Go Go.RowKit
set_option linter.unusedSimpArgs false
set_option linter.unusedVariables false
attribute [local go_sem] Oper.semAt_some
/-- A store made since W0, its items since B. -/
structure StB (W0 : World) (B : Nat) (s bm : Nat) (n : Int) (S : List Nd5) (W : World) : Prop where
  st : StoreAt W s bm 1000 S
  bd : ∀ x ∈ S, 0 ≤ x.2.2.used ∧ x.2.2.used ≤ n ∧ 0 ≤ x.2.2.held ∧ x.2.2.held ≤ n
  new : ∀ x ∈ S, B ≤ x.2.1
  ext : Ext W0 W
  bnew : W0.heap.size ≤ bm
  base : W0.heap.size ≤ B
  now : B ≤ W.heap.size
theorem StB.grow {W0 W W' : World} {B s bm : Nat} {n : Int} {S : List Nd5} (h : StB W0 B s bm n S W) (k : Ext W W') : StB W0 B s bm n S W' := ⟨h.st.ext k, h.bd, h.new, h.ext.trans k, h.bnew, h.base, Nat.le_trans h.now k.size⟩
theorem StB.zero {W0 W : World} {s bm : Nat} (h : StoreAt W s bm 1000 []) (k : Ext W0 W) (hb : W0.heap.size ≤ bm) : StB W0 W.heap.size s bm 0 [] W := ⟨h, by simp, by simp, k, hb, k.size, Nat.le_refl _⟩
def FB (bm : Nat) (S : List Nd5) : BSet := fun z => z = bm ∨ z ∈ S.map (·.2.1)
structure AddOk (W0 : World) (B s bm : Nat) (n : Int) (U H : List ByteArray) (S S' : List Nd5) (l : List Pair) (W W' : World) (e : Ending) : Prop where
  st : StB W0 B s bm (n + 3201) S' W'
  len : S'.length ≤ S.length + (textsL l).length
  kp : Keeps (FB bm S) W W'
  res : e = .returned (.tuple #[.string (shaB (trieT l).text), .int .i64 0])
  inv : SInv U (H ++ [shaB (trieT l).text]) S'
  key : ∀ k, k ∈ S'.map (·.1) ↔ k ∈ S.map (·.1) ∨ ∃ t ∈ textsL l, k = ky t
theorem add_ok {W0 W W' : World} {B s bm : Nat} {n : Int} {U H : List ByteArray} {S : List Nd5} {l : List Pair} {e : Ending} (h : StB W0 B s bm n S W) (hn : 0 ≤ n) (hU : InjL U) (hI : SInv U H S) (hc : checkN l = 0) (hLU : ∀ t ∈ textsL l, t ∈ U) (hlen : S.length ≤ 200) (hp : AddPost W s bm 1000 S (textsL l) (trieT l).text e W') :
    ∃ S', AddOk W0 B s bm n U H S S' l W W' e := by
  obtain ⟨G, M, hG, hnew, hP, hcase⟩ := hp
  obtain ⟨l1, l2⟩ := addS_len S G M (trieT l).text (textsL l) hG hP.inG
  have h3 := textsL_len hc
  have hmem : (trieT l).text ∈ textsL l := List.mem_of_getElem? (texts hc).head
  rcases hcase with ⟨h1, _, _⟩ | ⟨_, he, hS, hK⟩
  · omega
  · have hS : StoreAt W' s bm 1000 (addS S G M (trieT l).text) := hS
    have hb := addS_bounds (M := M) (top := (trieT l).text) h.bd hn hG (given_shut hG (shut_of W hc)) hP.inG
    obtain ⟨i1, i2⟩ := add_inv hU hI hLU hG hP (root_all W hc) hmem
    have hE : Ext W0 W' := h.ext.trans' hK (fun z hz e => by
      rcases e with e | e
      · have := h.bnew; omega
      · obtain ⟨y, hy, e⟩ := List.mem_map.1 e
        have := h.new y hy; have := h.base; omega)
    refine ⟨addS S G M (trieT l).text, ⟨hS, fun x hx => ?_, fun x hx => ?_, hE, h.bnew, h.base, Nat.le_trans h.now hK.size⟩, by omega, hK, he, i1, i2⟩
    · have := hb x hx; omega
    · rw [addS_is] at hx
      obtain ⟨y, hy, rfl⟩ := List.mem_map.1 hx
      show B ≤ y.2.1
      rcases List.mem_append.1 hy with hy | hy
      · exact h.new y hy
      · exact Nat.le_trans h.now (hnew y (picks_mem hy).1)
/-- Nodes, of any entries: a row of one's own. -/
def NodesR (l : List Pair) (w : World) (e : Ending) (w' : World) : Prop := ∃ a n c k L, e = .returned (.tuple #[.slice a n c, .int .i64 k]) ∧ SRow w w' (.slice a n c) n L ∧ n = L.length ∧ n ≤ 121 ∧ k = checkN l ∧ (checkN l = 0 → L = textsL l)
theorem nodes_row (w : World) (hc : Cubes w) (v : Value) (l : List Pair) (hv : RdP w v l) (hn : l.length ≤ 9223372036854775807) (hs : SmallP l) :
    Calls Tryz.prog 27 #[v] w (NodesR l w) := by
  by_cases h : checkN l = 0
  · refine (nodes_ok w v l hc hv h).mono ?_
    rintro e w' ⟨u, n, rfl, hR⟩
    have hR : SRow w w' u n (textsL l) := hR
    have hln : (textsL l).length = n := by have := hR.len; simpa using this
    obtain ⟨a, c, rfl⟩ := hR.sl
    exact ⟨a, n, c, 0, _, rfl, hR, hln.symm, by rw [← hln]; exact textsL_len h, h.symm, fun _ => rfl⟩
  · refine (nodes_bad w v l hv hn hs h).mono ?_
    rintro e w' ⟨rfl, hE⟩
    exact ⟨none, 0, 0, checkN l, [], rfl, ORow.nil _ _ hE, rfl, by omega, rfl, fun h0 => absurd h0 h⟩
/-- append of a row of texts of one's own, though it be empty. -/
theorem wpList_appS {ops : Array Oper} {rest : List Oper} {d : Option Tmp} {ty : TypeId} {pos : String} {af : Array Edge} {a : Act} {w0 w1 w : World} {Q : Exit → Act → World → Prop} {s x : Operand} {v pv : Value} {n m N : Nat} {xs : List Value} {ys : List ByteArray}
    (hR : ORow 9 1 w0 w v n xs) (hP : SRow w1 w pv m ys) (hN : n + m = N) (hs : a.eval s = v) (hx : a.eval x = pv) (h63 : N ≤ 1000000)
    (h : ∀ v' w', ORow 9 1 w0 w' v' N (xs ++ ys.map Value.string) → wpList Tryz.prog ops Q rest (a.put d v') w') :
    wpList Tryz.prog ops Q (⟨d, .call { callee := .builtin .append, args := #[s, x], argTypes := #[57, 57] }, ty, pos, af, none⟩ :: rest) a w := by
  subst hN
  obtain ⟨h1, ⟨rfl, h3⟩ | ⟨g, cap, cur, rfl, h3, h4, h5, h6, h7⟩⟩ := hP.own
  · have hys : ys = [] := by
      have := hP.len
      rw [h3] at this
      exact List.eq_nil_of_length_eq_zero (by simpa using this)
    subst hys
    obtain ⟨ad, c, rfl⟩ := hR.sl
    have hle : n ≤ c := by
      obtain ⟨_, ⟨e, e2⟩ | ⟨g, cap, cur, e, _, _, k5, _⟩⟩ := hR.own
      · omega
      · obtain ⟨_, _, e⟩ := Value.slice.inj e; omega
    refine wpList_app0 Tryz.sStrs hs hx hle (h _ _ ?_)
    subst h3
    simpa using hR
  · exact wpList_app Tryz.sStrs hR s x rfl hs hx (fun j u hj => hP.own.cells (g := g) rfl j u hj) (fun u hu => by obtain ⟨y, _, rfl⟩ := List.mem_map.1 hu; rfl) (by have := hP.len; simpa using this) rfl (by unfold maxLen; omega) (by omega) (fun v' w' r1 _ _ => h v' w' r1)
theorem SRow.past {F : BSet} {w0 w w' : World} {v : Value} {n : Nat} {xs : List ByteArray} (h : SRow w0 w v n xs) (k : Keeps F w w') (hF : ∀ b, F b → w0.heap.size ≤ b → w.heap.size ≤ b) : w'.ownsRow 0 9 1 v n (xs.map Value.string) :=
  own_keeps h.own k fun b hb hf => by have := h.new b hb; have := h.lt b hb; have := hF b hf; omega
end
end Go.Proofs.YtneojlgbcaejmaaGreatDoor
/- law 06: StoreShares, its walk. -/
namespace Go.Proofs.YtneojlgbcaejmaaGreatDoor
section
open Go Go.RowKit
set_option linter.unusedSimpArgs false
set_option linter.unusedVariables false
attribute [local go_sem] Oper.semAt_some
def ShR (W : World) (n : Nat) (iv : Value) (wr : World) : Prop := ∃ i : Nat, i ≤ n ∧ iv = .int .i64 ((i : Nat) : Int) ∧ Ext W wr
theorem own_open {W : World} {a : Option Addr} {n c : Nat} {xs : List ByteArray} (h : W.ownsRow 0 9 1 (.slice a n c) n (xs.map Value.string)) (hn : 0 < n) : ∃ g, a = some ⟨g, 0, none⟩ ∧ ∀ (j : Nat) t, xs[j]? = some t → W.cell? ⟨g, j, none⟩ = some (.string t) := by
  obtain ⟨h1, ⟨h2, h3⟩ | ⟨g, cap, cur, h2, h3⟩⟩ := h
  · omega
  · obtain ⟨rfl, _, _⟩ := Value.slice.inj h2
    refine ⟨g, rfl, fun j t ht => ?_⟩
    have h : W.ownsRow 0 9 1 (.slice (some ⟨g, 0, none⟩) n c) n (xs.map Value.string) := ⟨h1, .inr ⟨g, cap, cur, h2, h3⟩⟩
    have q := h.cells (g := g) rfl j (.string t) (by rw [List.getElem?_map, ht]; rfl)
    rwa [Addr.add_lit, Nat.zero_add] at q
set_option maxRecDepth 100000 in
set_option maxHeartbeats 8000000 in
theorem shares_c (w : World) (hc : Cubes w) (v u : Value) (l m : List Pair) (hv : RdP w v l) (hu : RdP w u m) (hn : l.length ≤ 9223372036854775807) (hs : SmallP l) (hn2 : m.length ≤ 9223372036854775807) (hs2 : SmallP m) :
    Calls Tryz.prog 8 #[v, u] w fun e w' => e = .returned (.bool true) ∧ Ext w w' := by
  have HC := Lib.hid hc
  have HV := Lib.hid hv
  have HU := Lib.hid hu
  have HSS := Lib.hid (And.intro hs hs2)
  have HNN := Lib.hid (And.intro hn hn2)
  obtain ⟨va, vc, hsl⟩ := hv.sl
  subst hsl
  obtain ⟨ua, uc, hsl⟩ := hu.sl
  subst hsl
  clear hc hv hu hs hs2 hn hn2
  go_enter Tryz.func8, Tryz.ntmps8
  go_wp2_with fail
  refine (works6_c w HC.out).mono ?_
  rintro e w1 ⟨rfl, hE⟩
  have HE1 := Lib.hid hE
  clear hE
  go_wp2_with fail
  refine (snew_c w1 1000).mono ?_
  rintro e w2 ⟨s, bm, rfl, hE, hS, hb1, hb2, hb3⟩
  have HS2 := Lib.hid (StB.zero (W0 := w) (show StoreAt w2 s bm 1000 [] from hS) (HE1.out.trans hE) (Nat.le_trans HE1.out.size hb1))
  clear hE hS hb1 hb2 hb3 HE1
  go_wp2_with fail
  refine (few5_c w2 _ l (HV.out.ext HS2.out.ext) HNN.out.1 HSS.out.1).mono ?_
  rintro e w3 ⟨rfl, hE⟩
  have HS3 := Lib.hid (HS2.out.grow hE)
  clear hE HS2
  cases hfa : fewB l with
  | false =>
    go_wp2_with fail
    refine (nodes_any w3 (HC.out.ext HS3.out.ext) _ l (HV.out.ext HS3.out.ext) HNN.out.1 HSS.out.1).mono ?_
    rintro e w4 ⟨xa, xn, xc, k1, rfl, hE, _, _⟩
    have HS4 := Lib.hid (HS3.out.grow hE)
    clear hE HS3
    go_wp2_with fail
    refine (nodes_any w4 (HC.out.ext HS4.out.ext) _ m (HU.out.ext HS4.out.ext) HNN.out.2 HSS.out.2).mono ?_
    rintro e w5 ⟨ya, yn, yc, k2, rfl, hE, _, _⟩
    have HS5 := Lib.hid (HS4.out.grow hE)
    clear hE HS4
    go_wp2_with fail
    go_ret
    exact ⟨rfl, HS5.out.ext⟩
  | true =>
    go_wp2_with fail
    refine (few5_c w3 _ m (HU.out.ext HS3.out.ext) HNN.out.2 HSS.out.2).mono ?_
    rintro e w3' ⟨rfl, hE⟩
    have HS3' := Lib.hid (HS3.out.grow hE)
    clear hE HS3
    cases hfb : fewB m with
    | false =>
      go_wp2_with fail
      refine (nodes_any w3' (HC.out.ext HS3'.out.ext) _ l (HV.out.ext HS3'.out.ext) HNN.out.1 HSS.out.1).mono ?_
      rintro e w4 ⟨xa, xn, xc, k1, rfl, hE, _, _⟩
      have HS4 := Lib.hid (HS3'.out.grow hE)
      clear hE HS3'
      go_wp2_with fail
      refine (nodes_any w4 (HC.out.ext HS4.out.ext) _ m (HU.out.ext HS4.out.ext) HNN.out.2 HSS.out.2).mono ?_
      rintro e w5 ⟨ya, yn, yc, k2, rfl, hE, _, _⟩
      have HS5 := Lib.hid (HS4.out.grow hE)
      clear hE HS4
      go_wp2_with fail
      go_ret
      exact ⟨rfl, HS5.out.ext⟩
    | true =>
      go_wp2_with fail
      refine (nodes_row w3' (HC.out.ext HS3'.out.ext) _ l (HV.out.ext HS3'.out.ext) HNN.out.1 HSS.out.1).mono ?_
      rintro e w4 ⟨xa, xn, xc, k1, X, rfl, hX, hxn, hx121, hk1, hxl⟩
      have HLT3 := Lib.hid HS3'.out.st.lts
      have HS4 := Lib.hid (HS3'.out.grow hX.ext)
      have HX4 := Lib.hid hX
      have HXI := Lib.hid (And.intro hxn (And.intro hk1 hxl))
      clear hX HS3' hxn hk1 hxl
      go_wp2_with fail
      refine (nodes_row w4 (HC.out.ext HS4.out.ext) _ m (HU.out.ext HS4.out.ext) HNN.out.2 HSS.out.2).mono ?_
      rintro e w5 ⟨ya, yn, yc, k2, Y, rfl, hY, hyn, hy121, hk2, hyl⟩
      have HS5 := Lib.hid (HS4.out.grow hY.ext)
      have HX5 := Lib.hid (HX4.out.mono hY.ext)
      have HY5 := Lib.hid hY
      have HYI := Lib.hid (And.intro hyn (And.intro hk2 hyl))
      have HZ := Lib.hid (And.intro HX4.out.ext.size hY.ext.size)
      clear hY HS4 HX4 hyn hk2 hyl
      by_cases h1 : k1 = 0
      case neg =>
        have hne2 : (k1 != 0) = true := by simpa using h1
        go_wp2_with fail
        go_ret
        exact ⟨rfl, HS5.out.ext⟩
      by_cases h2 : k2 = 0
      case neg =>
        subst h1
        have hne2 : (k2 != 0) = true := by simpa using h2
        go_wp2_with fail
        go_ret
        exact ⟨rfl, HS5.out.ext⟩
      subst h1
      subst h2
      have HA := Lib.hid (show checkN l = 0 from HXI.out.2.1.symm)
      have HB := Lib.hid (show checkN m = 0 from HYI.out.2.1.symm)
      have HXL := Lib.hid (HXI.out.2.2 HA.out)
      have HYL := Lib.hid (HYI.out.2.2 HB.out)
      obtain ⟨N, hN⟩ : ∃ N, xn + yn = N := ⟨_, rfl⟩
      have hN63 : N ≤ 1000000 := by omega
      have HNE := Lib.hid hN
      have HW0 := Lib.hid (show ORow 9 1 w5 (w5.alloc (.cells #[] 9)) (.slice (some ⟨w5.heap.size, 0, none⟩) 0 0) 0 [] from ORow.lit #[] (ExtR w5) (by decide) rfl)
      have HX0 := Lib.hid (HX5.out.mono ((ExtR w5).alloc (.cells #[] 9)))
      have hx63 : xn ≤ 1000000 := by omega
      clear hN
      go_wp2_with (first | (at_builtin; (refine wpList_appS HW0.out HX0.out (Nat.zero_add xn) rfl rfl hx63 ?_; intro v6 w6 r1; have HR1 := Lib.hid r1; have HY6 := Lib.hid (HY5.out.mono r1.ext); clear r1)) | (at_builtin; (refine wpList_appS HR1.out HY6.out HNE.out rfl rfl hN63 ?_; intro v7 w7 r2; have HR2 := Lib.hid r2; obtain ⟨aa, ac, hv7⟩ := r2.sl; subst hv7; clear r2)))
      have HA7 := Lib.hid (show SRow w5 w7 (.slice aa N ac) N (X ++ Y) from by have h := HR2.out; rw [List.nil_append, ← List.map_append] at h; exact h)
      have HS7 := Lib.hid (HS5.out.grow HA7.out.ext)
      have HX7 := Lib.hid (HX5.out.mono HA7.out.ext)
      have HY7 := Lib.hid (HY5.out.mono HA7.out.ext)
      clear HR1 HR2 HY6 HW0 HX0
      have HXYL := Lib.hid (show (X ++ Y).length = N from by have := HA7.out.len; simpa using this)
      refine (apart_c w7 (HC.out.ext HS7.out.ext) _ (X ++ Y) (SRow.rd HA7.out) (by rw [HXYL.out]; exact hN63)).mono ?_
      rintro e w8 ⟨b, rfl, hb, hE⟩
      have HS8 := Lib.hid (HS7.out.grow hE)
      have HX8 := Lib.hid (HX7.out.mono hE)
      have HY8 := Lib.hid (HY7.out.mono hE)
      have HA8 := Lib.hid (HA7.out.mono hE)
      have HBI := Lib.hid hb
      clear hE hb HS7 HX7 HY7 HA7 HS5 HX5 HY5
      cases b with
      | false =>
        go_wp2_with fail
        go_ret
        exact ⟨rfl, HS8.out.ext⟩
      | true =>
        have HI := Lib.hid (HBI.out.1 rfl)
        have HB8 := Lib.hid (StB.zero HS8.out.st HS8.out.ext HS8.out.bnew)
        have hxpos : 0 < xn := by
          rw [HXI.out.1, HXL.out]
          exact (List.getElem?_eq_some_iff.1 (texts HA.out).head).1
        have hypos : 0 < yn := by
          rw [HYI.out.1, HYL.out]
          exact (List.getElem?_eq_some_iff.1 (texts HB.out).head).1
        have HPOS := Lib.hid (And.intro hxpos hypos)
        obtain ⟨tx, htx⟩ : ∃ tx, tx = (trieT l).text := ⟨_, rfl⟩
        obtain ⟨ty, hty⟩ : ∃ ty, ty = (trieT m).text := ⟨_, rfl⟩
        obtain ⟨sx, hsx⟩ : ∃ sx, sx = shaB tx := ⟨_, rfl⟩
        obtain ⟨sy, hsy⟩ : ∃ sy, sy = shaB ty := ⟨_, rfl⟩
        have HTX := Lib.hid (And.intro htx (And.intro hty (And.intro hsx hsy)))
        clear htx hty hsx hsy hxpos hypos
        go_wp2_with fail
        refine (add_c w8 (HC.out.ext HB8.out.ext) s bm 1000 [] HB8.out.st _ X (SRow.rd HX8.out) (by rw [HXL.out]; exact shut_of w HA.out) (trieT l).text (by rw [HXL.out]; exact (texts HA.out).head) (by decide) (by decide) (by simp) (fun x hx => by cases hx) (fun x hx => by cases hx)).mono ?_
        rintro e w9 hP
        rw [HXL.out] at hP
        obtain ⟨S1, O1⟩ := add_ok HB8.out (Int.le_refl 0) HI.out (SInv.none _) HA.out (fun t ht => by rw [HXL.out]; exact List.mem_append_left _ ht) (by simp) hP
        obtain rfl := O1.res
        rw [← HTX.out.1, ← HTX.out.2.2.1]
        have HK9 := Lib.hid (show Keeps (fun z => z = bm ∨ w8.heap.size ≤ z) w8 w9 from O1.kp.mono (fun z _ g => g.elim .inl (fun g => by cases g)))
        have HO1 := Lib.hid O1
        have hyp : ∀ b, (b = bm ∨ w8.heap.size ≤ b) → w3'.heap.size ≤ b → w8.heap.size ≤ b := fun b g hb => by
          rcases g with g | g
          · have := HLT3.out b (.inl g); omega
          · exact g
        have HYP := Lib.hid hyp
        have HY9 := Lib.hid (SRow.past HY8.out HK9.out (fun b g hb => HYP.out b g (by have := HZ.out.1; omega)))
        have HL1 := Lib.hid (show S1.length ≤ 121 by have h1 := O1.len; have := textsL_len HA.out; simp at h1; omega)
        clear hP O1 hyp
        go_wp2_with fail
        refine (add_c w9 (HC.out.ext HO1.out.st.ext) s bm 1000 S1 HO1.out.st.st _ Y (own_rd HY9.out) (by rw [HYL.out]; exact shut_of w HB.out) (trieT m).text (by rw [HYL.out]; exact (texts HB.out).head) (by decide) (by decide) (by have := HL1.out; omega) (fun x hx => by have := HO1.out.st.bd x hx; omega) (fun x hx => by have := HO1.out.st.bd x hx; omega)).mono ?_
        rintro e w10 hP
        rw [HYL.out] at hP
        obtain ⟨S2, O2⟩ := add_ok HO1.out.st (by decide) HI.out HO1.out.inv HB.out (fun t ht => by rw [HYL.out]; exact List.mem_append_right _ ht) (by have := HL1.out; omega) hP
        obtain rfl := O2.res
        rw [← HTX.out.2.1, ← HTX.out.2.2.2]
        have HK10 := Lib.hid (show Keeps (fun z => z = bm ∨ w8.heap.size ≤ z) w8 w10 from HK9.out.trans (O2.kp.mono (fun z _ g => g.elim .inl (fun g => by
          obtain ⟨y, hy, e⟩ := List.mem_map.1 g
          have := HO1.out.st.new y hy; exact .inr (by omega)))))
        have HO2 := Lib.hid O2
        have HL2 := Lib.hid (show S2.length ≤ xn + yn by have h1 := O2.len; have h2 := HO1.out.len; have h3 := HXI.out.1; have h4 := HYI.out.1; rw [HXL.out] at h3; rw [HYL.out] at h4; simp at h2; omega)
        obtain ⟨ga, rfl, hca⟩ := own_open (SRow.past HA8.out HK10.out (fun b g hb => HYP.out b g (by have := HZ.out; omega))) (by have := HPOS.out; have := HNE.out; omega)
        obtain ⟨gx, rfl, hcx⟩ := own_open (SRow.past HX8.out HK10.out HYP.out) HPOS.out.1
        obtain ⟨gy, rfl, hcy⟩ := own_open (SRow.past HY8.out HK10.out (fun b g hb => HYP.out b g (by have := HZ.out.1; omega))) HPOS.out.2
        have HCA := Lib.hid hca
        have HCX := Lib.hid (hcx 0 tx (by rw [HXL.out, HTX.out.1]; exact (texts HA.out).head))
        have HCY := Lib.hid (hcy 0 ty (by rw [HYL.out, HTX.out.2.1]; exact (texts HB.out).head))
        have HKEY := Lib.hid (show ∀ t ∈ X ++ Y, ky t ∈ S2.map (·.1) from fun t ht => by
          rw [O2.key, HO1.out.key]
          rcases List.mem_append.1 ht with h | h
          · exact .inl (.inr ⟨t, by rw [← HXL.out]; exact h, rfl⟩)
          · exact .inr ⟨t, by rw [← HYL.out]; exact h, rfl⟩)
        clear hP O2 hca hcx hcy HY9 HK9 HA8 HX8 HY8
        have hns : S2.length ≤ 242 := by have := HL2.out; omega
        have HNS := Lib.hid hns
        clear hns
        go_wp2_with fail
        go_loopw [18] (fun iv wr => ShR w10 N iv wr) (fun iv _ => N - (intOf iv).toNat)
        case atStart => exact ⟨0, by omega, rfl, ExtR w10⟩
        case round =>
          obtain ⟨i, hi, rfl, hE⟩ := hrel
          have HE := Lib.hid hE
          clear hE
          by_cases hlt : i < N
          · have b1 : (i : Int) < (N : Int) := by omega
            obtain ⟨t, ht⟩ : ∃ t, (X ++ Y)[i]? = some t := ⟨_, List.getElem?_eq_getElem (by rw [HXYL.out]; exact hlt)⟩
            have Q := Lib.hid (HCA.out i t ht)
            have htm := List.mem_of_getElem? ht
            have HTM := Lib.hid htm
            have q1 := cell_ext Q.out HE.out
            obtain ⟨sh, hsh⟩ : ∃ sh, sh = shaB t := ⟨_, rfl⟩
            have HSH := Lib.hid hsh
            have htt : (t == t) = true := by rw [ba_beq]; exact decide_eq_true rfl
            obtain ⟨x, hx1, hx2, hx3, _⟩ := HO2.out.inv.text HI.out htm (HKEY.out t htm)
            have hcnt : 1 ≤ countO (atL S2 (ky t)) := by
              rcases List.mem_append.1 htm with h | h
              · exact HO2.out.inv.cnt HI.out w (texts HA.out) (fun t ht => List.mem_append_left _ (by rw [HXL.out]; exact ht)) (fun t ht => HKEY.out t (List.mem_append_left _ (by rw [HXL.out]; exact ht))) (by simp) (by rw [HXL.out] at h; exact h)
              · exact HO2.out.inv.cnt HI.out w (texts HB.out) (fun t ht => List.mem_append_right _ (by rw [HYL.out]; exact ht)) (fun t ht => HKEY.out t (List.mem_append_right _ (by rw [HYL.out]; exact ht))) (by simp) (by rw [HYL.out] at h; exact h)
            have HAT := Lib.hid (show (atL S2 sh.data.toList).map (fun z : Nd5 => z.2.2.text) = some t by rw [hsh]; show (atL S2 (ky t)).map _ = _; rw [hx1, ← hx3]; rfl)
            obtain ⟨cn, hcn⟩ : ∃ cn, cn = countO (atL S2 sh.data.toList) := ⟨_, rfl⟩
            have HCN := Lib.hid hcn
            have c1 : ¬ cn < 1 := by rw [hcn, hsh]; show ¬ countO (atL S2 (ky t)) < 1; omega
            clear ht htm hsh hx1 hx2 hx3 hcnt hcn
            go_wp2_with fail
            have hx4 : Ext wr (wr.alloc (.cells #[.string t] 9)) := (ExtR wr).alloc _
            refine (of_t _ _ [t] (by simp) (rds_lit wr [t] 9) (HC.out.ext ((HO2.out.st.ext.trans HE.out).trans hx4))).mono ?_
            rintro e w11 ⟨rfl, hE⟩
            rw [catB_one, ← HSH.out]
            have HE11 := Lib.hid ((HE.out.trans hx4).trans hE)
            clear hE hx4 q1
            go_wp2_with fail
            refine (sget_c w11 s bm 1000 S2 sh (HO2.out.st.st.ext HE11.out)).mono ?_
            rintro e w12 ⟨rfl, hE⟩
            rw [HAT.out]
            unfold optV
            have HE12 := Lib.hid (HE11.out.trans hE)
            have q1 := cell_ext Q.out HE12.out
            clear hE HE11
            go_wp2_with fail
            have hx4 : Ext w12 (w12.alloc (.cells #[.string t] 9)) := (ExtR w12).alloc _
            refine (of_t _ _ [t] (by simp) (rds_lit w12 [t] 9) (HC.out.ext ((HO2.out.st.ext.trans HE12.out).trans hx4))).mono ?_
            rintro e w13 ⟨rfl, hE⟩
            rw [catB_one, ← HSH.out]
            have HE13 := Lib.hid ((HE12.out.trans hx4).trans hE)
            clear hE hx4 q1 HE12
            go_wp2_with fail
            refine (scount_c w13 s bm 1000 S2 sh (HO2.out.st.st.ext HE13.out) (fun x hx => by have := HO2.out.st.bd x hx; omega)).mono ?_
            rintro e w14 ⟨rfl, hE⟩
            rw [← HCN.out]
            have HE14 := Lib.hid (HE13.out.trans hE)
            clear hE HE13
            go_wp2_with fail
            go_roundw
            case rel => exact ⟨i + 1, by omega, by go_num, HE14.out⟩
            case measure => simp [intOf]; omega
          · have b1 : ¬ (i : Int) < (N : Int) := by omega
            go_wp2_with fail
            refine (shashes_c wr s bm 1000 S2 (HO2.out.st.st.ext HE.out) (by have := HNS.out; omega)).mono ?_
            rintro e w11 ⟨nv, rfl, hNv⟩
            obtain ⟨na, nc, hsl⟩ := hNv.sl
            subst hsl
            have HE11 := Lib.hid (HE.out.trans hNv.ext)
            clear hNv HE
            obtain ⟨n2, hn2⟩ : ∃ n2, n2 = S2.length := ⟨_, rfl⟩
            have HN2 := Lib.hid hn2
            rw [← hn2]
            have hnb : n2 ≤ 242 := by rw [hn2]; exact HNS.out
            have c1 : ¬ (xn : Int) + (yn : Int) < (n2 : Int) := by have := HL2.out; omega
            have hnx : xn ≤ n2 := by
              have h := keys_len (texts HA.out).nodup (fun a ha b hb => HI.out a (List.mem_append_left _ (by rw [HXL.out]; exact ha)) b (List.mem_append_left _ (by rw [HXL.out]; exact hb))) (K := S2.map (·.1)) (fun t ht => HKEY.out t (List.mem_append_left _ (by rw [HXL.out]; exact ht)))
              rw [List.length_map] at h
              rw [hn2, HXI.out.1, HXL.out]; exact h
            have hny : yn ≤ n2 := by
              have h := keys_len (texts HB.out).nodup (fun a ha b hb => HI.out a (List.mem_append_right _ (by rw [HYL.out]; exact ha)) b (List.mem_append_right _ (by rw [HYL.out]; exact hb))) (K := S2.map (·.1)) (fun t ht => HKEY.out t (List.mem_append_right _ (by rw [HYL.out]; exact ht)))
              rw [List.length_map] at h
              rw [hn2, HYI.out.1, HYL.out]; exact h
            have c2 : ¬ (n2 : Int) < (xn : Int) := by omega
            have c3 : ¬ (n2 : Int) < (yn : Int) := by omega
            have c4 : (0 : Int) < (xn : Int) := by have := HPOS.out.1; omega
            have c5 : (0 : Int) < (yn : Int) := by have := HPOS.out.2; omega
            have hsx : (sx == sx) = true := by rw [ba_beq]; exact decide_eq_true rfl
            have hsy : (sy == sy) = true := by rw [ba_beq]; exact decide_eq_true rfl
            have q1 := cell_ext HCX.out HE11.out
            clear hn2 hnx hny
            go_wp2_with fail
            have hx4 : Ext w11 (w11.alloc (.cells #[.string tx] 9)) := (ExtR w11).alloc _
            refine (of_t _ _ [tx] (by simp) (rds_lit w11 [tx] 9) (HC.out.ext ((HO2.out.st.ext.trans HE11.out).trans hx4))).mono ?_
            rintro e w12 ⟨rfl, hE⟩
            rw [catB_one, ← HTX.out.2.2.1]
            have HE12 := Lib.hid ((HE11.out.trans hx4).trans hE)
            have q2 := cell_ext HCY.out HE12.out
            clear hE hx4 q1 HE11
            go_wp2_with fail
            have hx4 : Ext w12 (w12.alloc (.cells #[.string ty] 9)) := (ExtR w12).alloc _
            refine (of_t _ _ [ty] (by simp) (rds_lit w12 [ty] 9) (HC.out.ext ((HO2.out.st.ext.trans HE12.out).trans hx4))).mono ?_
            rintro e w13 ⟨rfl, hE⟩
            rw [catB_one, ← HTX.out.2.2.2]
            have HE13 := Lib.hid ((HE12.out.trans hx4).trans hE)
            clear hE hx4 q2 HE12
            go_wp2_with fail
            refine (sroom_c w13 s bm 1000 S2 (HO2.out.st.st.ext HE13.out) (by decide) (by decide) (by have := HNS.out; omega)).mono ?_
            rintro e w14 ⟨rfl, hE⟩
            rw [← HN2.out]
            have HE14 := Lib.hid (HO2.out.st.ext.trans (HE13.out.trans hE))
            clear hE HE13
            go_wp2_with fail
            go_ret
            exact ⟨rfl, HE14.out⟩
end
end Go.Proofs.YtneojlgbcaejmaaGreatDoor
/- law 06: StoreOrder, its walk. -/
namespace Go.Proofs.YtneojlgbcaejmaaGreatDoor
section
open Go Go.RowKit
set_option linter.unusedSimpArgs false
set_option linter.unusedVariables false
attribute [local go_sem] Oper.semAt_some
theorem Tryz.enterCount6 : ∀ args w, (callFunc 32 args).run Tryz.prog w = .ok (.enter 32 args) w := fun _ _ => by kernel_rfl
theorem Tryz.enterHeld6 : ∀ args w, (callFunc 36 args).run Tryz.prog w = .ok (.enter 36 args) w := fun _ _ => by kernel_rfl
/-- What is added to one store leaves the other. -/
theorem store_past {W W' : World} {s bs t bt : Nat} {rs rt : Int} {S T : List Nd5} (h : StoreAt W s bs rs S) (g : StoreAt W t bt rt T) (hne : bs ≠ bt) (hd : ∀ z ∈ S.map (·.2.1), z ∉ T.map (·.2.1)) (k : Keeps (FB bs S) W W') : StoreAt W' t bt rt T := by
  have hb : ∀ {z : Nat} {cur : Array Value} {ty : TypeId} {fz : Nat × Nat}, FB bs S z → Blk W z (.cells cur ty fz) → ty = 106 ∧ z ∈ S.map (·.2.1) := fun {z cur ty fz} hz hB => by
    rcases hz with rfl | hz
    · obtain ⟨es, ck, h1, _⟩ := h.mp.mp
      cases h1.uniq hB
    · obtain ⟨y, hy, rfl⟩ := List.mem_map.1 hz
      obtain ⟨rv, h1, _⟩ := (h.mp.items y hy).cells
      have := h1.uniq hB
      injection this with _ e _
      exact ⟨e.symm, hz⟩
  refine ⟨g.st.keeps k fun hz => ?_, g.mp.keeps k (fun hz => ?_) (fun x hx hz => ?_) fun b cur fz hz hB => ?_⟩
  · have := (hb hz g.st).1
    revert this; decide
  · obtain ⟨es, ck, h1, _⟩ := g.mp.mp
    rcases hz with hz | hz
    · exact hne hz.symm
    · obtain ⟨y, hy, e⟩ := List.mem_map.1 hz
      obtain ⟨rv, h2, _⟩ := (h.mp.items y hy).cells
      rw [e] at h2
      cases h1.uniq h2
  · obtain ⟨rv, h1, _⟩ := (g.mp.items x hx).cells
    exact hd _ (hb hz h1).2 (List.mem_map_of_mem hx)
  · have := (hb hz hB).1
    revert this; decide
set_option maxRecDepth 100000 in
set_option maxHeartbeats 8000000 in
theorem order_c (w : World) (hc : Cubes w) (v u : Value) (l m : List Pair) (hv : RdP w v l) (hu : RdP w u m) (hn : l.length ≤ 9223372036854775807) (hs : SmallP l) (hn2 : m.length ≤ 9223372036854775807) (hs2 : SmallP m) :
    Calls Tryz.prog 10 #[v, u] w fun e w' => e = .returned (.bool true) ∧ Ext w w' := by
  have HC := Lib.hid hc
  have HV := Lib.hid hv
  have HU := Lib.hid hu
  have HSS := Lib.hid (And.intro hs hs2)
  have HNN := Lib.hid (And.intro hn hn2)
  obtain ⟨va, vc, hsl⟩ := hv.sl
  subst hsl
  obtain ⟨ua, uc, hsl⟩ := hu.sl
  subst hsl
  clear hc hv hu hs hs2 hn hn2
  go_enter Tryz.func10, Tryz.ntmps10
  go_wp2_with fail
  refine (works6_c w HC.out).mono ?_
  rintro e w1 ⟨rfl, hE⟩
  have HE1 := Lib.hid hE
  clear hE
  go_wp2_with fail
  refine (snew_c w1 1000).mono ?_
  rintro e w2a ⟨s, bm, rfl, hE, hS, hb1, hb2, hb3⟩
  have HS2a := Lib.hid (StB.zero (W0 := w) (show StoreAt w2a s bm 1000 [] from hS) (HE1.out.trans hE) (Nat.le_trans HE1.out.size hb1))
  clear hE hS hb1 hb2 hb3 HE1
  go_wp2_with fail
  refine (snew_c w2a 1000).mono ?_
  rintro e w2 ⟨t, bt, rfl, hE, hS, hb1, hb2, hb3⟩
  have HS2 := Lib.hid (HS2a.out.grow hE)
  have HT2 := Lib.hid (show StoreAt w2 t bt 1000 [] from hS)
  have HBT := Lib.hid (show bm ≠ bt ∧ w.heap.size ≤ bt from ⟨by have := HS2a.out.st.lts bm (.inl rfl); omega, Nat.le_trans HS2a.out.ext.size hb1⟩)
  clear hE hS hb1 hb2 hb3 HS2a
  go_wp2_with fail
  refine (few5_c w2 _ l (HV.out.ext HS2.out.ext) HNN.out.1 HSS.out.1).mono ?_
  rintro e w3 ⟨rfl, hE⟩
  have HS3 := Lib.hid (HS2.out.grow hE)
  have HT3 := Lib.hid (HT2.out.ext hE)
  clear hE HS2 HT2
  cases hfa : fewB l with
  | false =>
    go_wp2_with fail
    refine (nodes_row w3 (HC.out.ext HS3.out.ext) _ l (HV.out.ext HS3.out.ext) HNN.out.1 HSS.out.1).mono ?_
    rintro e w4 ⟨xa, xn, xc, k1, X, rfl, hX, hxn, hx121, hk1, hxl⟩
    have HLT3 := Lib.hid HS3.out.st.lts
    have HBT3 := Lib.hid (show bt < w3.heap.size from HT3.out.lts bt (.inl rfl))
    have HS4 := Lib.hid (HS3.out.grow hX.ext)
    have HT4 := Lib.hid (HT3.out.ext hX.ext)
    have HX4 := Lib.hid hX
    have HXI := Lib.hid (And.intro hxn (And.intro hk1 hxl))
    clear hX HS3 HT3 hxn hk1 hxl
    go_wp2_with fail
    refine (nodes_row w4 (HC.out.ext HS4.out.ext) _ m (HU.out.ext HS4.out.ext) HNN.out.2 HSS.out.2).mono ?_
    rintro e w5 ⟨ya, yn, yc, k2, Y, rfl, hY, hyn, hy121, hk2, hyl⟩
    have HS5 := Lib.hid (HS4.out.grow hY.ext)
    have HT5 := Lib.hid (HT4.out.ext hY.ext)
    have HX5 := Lib.hid (HX4.out.mono hY.ext)
    have HY5 := Lib.hid hY
    have HYI := Lib.hid (And.intro hyn (And.intro hk2 hyl))
    have HZ := Lib.hid (And.intro HX4.out.ext.size hY.ext.size)
    clear hY HS4 HT4 HX4 hyn hk2 hyl
    obtain ⟨N, hN⟩ : ∃ N, xn + yn = N := ⟨_, rfl⟩
    have hN63 : N ≤ 1000000 := by omega
    have HNE := Lib.hid hN
    have HW0 := Lib.hid (show ORow 9 1 w5 (w5.alloc (.cells #[] 9)) (.slice (some ⟨w5.heap.size, 0, none⟩) 0 0) 0 [] from ORow.lit #[] (ExtR w5) (by decide) rfl)
    have HX0 := Lib.hid (HX5.out.mono ((ExtR w5).alloc (.cells #[] 9)))
    have hx63 : xn ≤ 1000000 := by omega
    clear hN
    go_wp2_with (first | (at_builtin; (refine wpList_appS HW0.out HX0.out (Nat.zero_add xn) rfl rfl hx63 ?_; intro v6 w6 r1; have HR1 := Lib.hid r1; have HY6 := Lib.hid (HY5.out.mono r1.ext); clear r1)) | (at_builtin; (refine wpList_appS HR1.out HY6.out HNE.out rfl rfl hN63 ?_; intro v7 w7 r2; have HR2 := Lib.hid r2; obtain ⟨aa, ac, hv7⟩ := r2.sl; subst hv7; clear r2)))
    have HA7 := Lib.hid (show SRow w5 w7 (.slice aa N ac) N (X ++ Y) from by have h := HR2.out; rw [List.nil_append, ← List.map_append] at h; exact h)
    have HS7 := Lib.hid (HS5.out.grow HA7.out.ext)
    have HT7 := Lib.hid (HT5.out.ext HA7.out.ext)
    have HX7 := Lib.hid (HX5.out.mono HA7.out.ext)
    have HY7 := Lib.hid (HY5.out.mono HA7.out.ext)
    clear HR1 HR2 HY6 HW0 HX0
    have HXYL := Lib.hid (show (X ++ Y).length = N from by have := HA7.out.len; simpa using this)
    refine (apart_c w7 (HC.out.ext HS7.out.ext) _ (X ++ Y) (SRow.rd HA7.out) (by rw [HXYL.out]; exact hN63)).mono ?_
    rintro e w8 ⟨b, rfl, hb, hE⟩
    have HS8 := Lib.hid (HS7.out.grow hE)
    have HT8 := Lib.hid (HT7.out.ext hE)
    have HX8 := Lib.hid (HX7.out.mono hE)
    have HY8 := Lib.hid (HY7.out.mono hE)
    have HBI := Lib.hid hb
    clear hE hb HS7 HT7 HX7 HY7 HA7 HS5 HT5 HX5 HY5
    go_wp2_with fail
    go_ret
    exact ⟨rfl, HS8.out.ext⟩
  | true =>
    go_wp2_with fail
    refine (few5_c w3 _ m (HU.out.ext HS3.out.ext) HNN.out.2 HSS.out.2).mono ?_
    rintro e w3' ⟨rfl, hE⟩
    have HS3' := Lib.hid (HS3.out.grow hE)
    have HT3' := Lib.hid (HT3.out.ext hE)
    clear hE HS3 HT3
    obtain ⟨lk, hlk⟩ : ∃ lk, lk = fewB m := ⟨_, rfl⟩
    rw [← hlk]
    clear hlk
    go_wp2_with fail
    refine (nodes_row w3' (HC.out.ext HS3'.out.ext) _ l (HV.out.ext HS3'.out.ext) HNN.out.1 HSS.out.1).mono ?_
    rintro e w4 ⟨xa, xn, xc, k1, X, rfl, hX, hxn, hx121, hk1, hxl⟩
    have HLT3 := Lib.hid HS3'.out.st.lts
    have HBT3 := Lib.hid (show bt < w3'.heap.size from HT3'.out.lts bt (.inl rfl))
    have HS4 := Lib.hid (HS3'.out.grow hX.ext)
    have HT4 := Lib.hid (HT3'.out.ext hX.ext)
    have HX4 := Lib.hid hX
    have HXI := Lib.hid (And.intro hxn (And.intro hk1 hxl))
    clear hX HS3' HT3' hxn hk1 hxl
    go_wp2_with fail
    refine (nodes_row w4 (HC.out.ext HS4.out.ext) _ m (HU.out.ext HS4.out.ext) HNN.out.2 HSS.out.2).mono ?_
    rintro e w5 ⟨ya, yn, yc, k2, Y, rfl, hY, hyn, hy121, hk2, hyl⟩
    have HS5 := Lib.hid (HS4.out.grow hY.ext)
    have HT5 := Lib.hid (HT4.out.ext hY.ext)
    have HX5 := Lib.hid (HX4.out.mono hY.ext)
    have HY5 := Lib.hid hY
    have HYI := Lib.hid (And.intro hyn (And.intro hk2 hyl))
    have HZ := Lib.hid (And.intro HX4.out.ext.size hY.ext.size)
    clear hY HS4 HT4 HX4 hyn hk2 hyl
    obtain ⟨N, hN⟩ : ∃ N, xn + yn = N := ⟨_, rfl⟩
    have hN63 : N ≤ 1000000 := by omega
    have HNE := Lib.hid hN
    have HW0 := Lib.hid (show ORow 9 1 w5 (w5.alloc (.cells #[] 9)) (.slice (some ⟨w5.heap.size, 0, none⟩) 0 0) 0 [] from ORow.lit #[] (ExtR w5) (by decide) rfl)
    have HX0 := Lib.hid (HX5.out.mono ((ExtR w5).alloc (.cells #[] 9)))
    have hx63 : xn ≤ 1000000 := by omega
    clear hN
    go_wp2_with (first | (at_builtin; (refine wpList_appS HW0.out HX0.out (Nat.zero_add xn) rfl rfl hx63 ?_; intro v6 w6 r1; have HR1 := Lib.hid r1; have HY6 := Lib.hid (HY5.out.mono r1.ext); clear r1)) | (at_builtin; (refine wpList_appS HR1.out HY6.out HNE.out rfl rfl hN63 ?_; intro v7 w7 r2; have HR2 := Lib.hid r2; obtain ⟨aa, ac, hv7⟩ := r2.sl; subst hv7; clear r2)))
    have HA7 := Lib.hid (show SRow w5 w7 (.slice aa N ac) N (X ++ Y) from by have h := HR2.out; rw [List.nil_append, ← List.map_append] at h; exact h)
    have HS7 := Lib.hid (HS5.out.grow HA7.out.ext)
    have HT7 := Lib.hid (HT5.out.ext HA7.out.ext)
    have HX7 := Lib.hid (HX5.out.mono HA7.out.ext)
    have HY7 := Lib.hid (HY5.out.mono HA7.out.ext)
    clear HR1 HR2 HY6 HW0 HX0
    have HXYL := Lib.hid (show (X ++ Y).length = N from by have := HA7.out.len; simpa using this)
    refine (apart_c w7 (HC.out.ext HS7.out.ext) _ (X ++ Y) (SRow.rd HA7.out) (by rw [HXYL.out]; exact hN63)).mono ?_
    rintro e w8 ⟨b, rfl, hb, hE⟩
    have HS8 := Lib.hid (HS7.out.grow hE)
    have HT8 := Lib.hid (HT7.out.ext hE)
    have HX8 := Lib.hid (HX7.out.mono hE)
    have HY8 := Lib.hid (HY7.out.mono hE)
    have HBI := Lib.hid hb
    clear hE hb HS7 HT7 HX7 HY7 HA7 HS5 HT5 HX5 HY5
    cases lk with
    | false =>
      go_wp2_with fail
      go_ret
      exact ⟨rfl, HS8.out.ext⟩
    | true =>
      by_cases h1 : k1 = 0
      case neg =>
        have hne2 : (k1 != 0) = true := by simpa using h1
        go_wp2_with fail
        go_ret
        exact ⟨rfl, HS8.out.ext⟩
      by_cases h2 : k2 = 0
      case neg =>
        subst h1
        have hne2 : (k2 != 0) = true := by simpa using h2
        go_wp2_with fail
        go_ret
        exact ⟨rfl, HS8.out.ext⟩
      subst h1
      subst h2
      have HA := Lib.hid (show checkN l = 0 from HXI.out.2.1.symm)
      have HB := Lib.hid (show checkN m = 0 from HYI.out.2.1.symm)
      have HXL := Lib.hid (HXI.out.2.2 HA.out)
      have HYL := Lib.hid (HYI.out.2.2 HB.out)
      cases b with
      | false =>
        go_wp2_with fail
        go_ret
        exact ⟨rfl, HS8.out.ext⟩
      | true =>
        have HI := Lib.hid (HBI.out.1 rfl)
        have HB8 := Lib.hid (StB.zero HS8.out.st HS8.out.ext HS8.out.bnew)
        go_wp2_with fail
        refine (add_c w8 (HC.out.ext HB8.out.ext) s bm 1000 [] HB8.out.st _ X (SRow.rd HX8.out) (by rw [HXL.out]; exact shut_of w HA.out) (trieT l).text (by rw [HXL.out]; exact (texts HA.out).head) (by decide) (by decide) (by simp) (fun x hx => by cases hx) (fun x hx => by cases hx)).mono ?_
        rintro e w9 hP
        rw [HXL.out] at hP
        obtain ⟨S1, O1⟩ := add_ok HB8.out (Int.le_refl 0) HI.out (SInv.none _) HA.out (fun t ht => by rw [HXL.out]; exact List.mem_append_left _ ht) (by simp) hP
        obtain rfl := O1.res
        have HK9 := Lib.hid (show Keeps (fun z => z = bm ∨ z = bt ∨ w8.heap.size ≤ z) w8 w9 from O1.kp.mono (fun z _ g => g.elim .inl (fun g => by cases g)))
        have HO1 := Lib.hid O1
        have hyp : ∀ b, (b = bm ∨ b = bt ∨ w8.heap.size ≤ b) → w3'.heap.size ≤ b → w8.heap.size ≤ b := fun b g hb => by
          rcases g with g | g | g
          · have := HLT3.out b (.inl g); omega
          · have := HBT3.out; omega
          · exact g
        have HYP := Lib.hid hyp
        have HY9 := Lib.hid (SRow.past HY8.out HK9.out (fun b g hb => HYP.out b g (by have := HZ.out.1; omega)))
        have HT9 := Lib.hid (store_past HS8.out.st HT8.out HBT.out.1 (by simp) O1.kp)
        have HL1 := Lib.hid (show S1.length ≤ 121 by have h1 := O1.len; have := textsL_len HA.out; simp at h1; omega)
        clear hP O1 hyp
        go_wp2_with fail
        refine (add_c w9 (HC.out.ext HO1.out.st.ext) s bm 1000 S1 HO1.out.st.st _ Y (own_rd HY9.out) (by rw [HYL.out]; exact shut_of w HB.out) (trieT m).text (by rw [HYL.out]; exact (texts HB.out).head) (by decide) (by decide) (by have := HL1.out; omega) (fun x hx => by have := HO1.out.st.bd x hx; omega) (fun x hx => by have := HO1.out.st.bd x hx; omega)).mono ?_
        rintro e w10 hP
        rw [HYL.out] at hP
        obtain ⟨S2, O2⟩ := add_ok HO1.out.st (by decide) HI.out HO1.out.inv HB.out (fun t ht => by rw [HYL.out]; exact List.mem_append_right _ ht) (by have := HL1.out; omega) hP
        obtain rfl := O2.res
        have HK10 := Lib.hid (show Keeps (fun z => z = bm ∨ z = bt ∨ w8.heap.size ≤ z) w8 w10 from HK9.out.trans (O2.kp.mono (fun z _ g => g.elim .inl (fun g => by
          obtain ⟨y, hy, e⟩ := List.mem_map.1 g
          have := HO1.out.st.new y hy; exact .inr (.inr (by omega))))))
        have HO2 := Lib.hid O2
        have HL2 := Lib.hid (show S2.length ≤ 242 by have h1 := O2.len; have := textsL_len HB.out; have := HL1.out; omega)
        have HT10 := Lib.hid (StB.zero (store_past HO1.out.st.st HT9.out HBT.out.1 (by simp) O2.kp) O2.st.ext HBT.out.2)
        have HY10 := Lib.hid (SRow.past HY8.out HK10.out (fun b g hb => HYP.out b g (by have := HZ.out.1; omega)))
        clear hP O2 HT9 HY9 HK9
        go_wp2_with fail
        refine (add_c w10 (HC.out.ext HT10.out.ext) t bt 1000 [] HT10.out.st _ Y (own_rd HY10.out) (by rw [HYL.out]; exact shut_of w HB.out) (trieT m).text (by rw [HYL.out]; exact (texts HB.out).head) (by decide) (by decide) (by simp) (fun x hx => by cases hx) (fun x hx => by cases hx)).mono ?_
        rintro e w11 hP
        rw [HYL.out] at hP
        obtain ⟨T1, P1⟩ := add_ok HT10.out (Int.le_refl 0) HI.out (SInv.none _) HB.out (fun t ht => by rw [HYL.out]; exact List.mem_append_right _ ht) (by simp) hP
        obtain rfl := P1.res
        have HK11 := Lib.hid (show Keeps (fun z => z = bm ∨ z = bt ∨ w8.heap.size ≤ z) w8 w11 from HK10.out.trans (P1.kp.mono (fun z _ g => g.elim (fun g => .inr (.inl g)) (fun g => by cases g))))
        have HP1 := Lib.hid P1
        have HX11 := Lib.hid (SRow.past HX8.out HK11.out HYP.out)
        have HS11 := Lib.hid (store_past HT10.out.st HO2.out.st.st (Ne.symm HBT.out.1) (by simp) P1.kp)
        have HM1 := Lib.hid (show T1.length ≤ 121 by have h1 := P1.len; have := textsL_len HB.out; simp at h1; omega)
        have HLT10 := Lib.hid HO2.out.st.st.lts
        clear hP P1 HY10
        go_wp2_with fail
        refine (add_c w11 (HC.out.ext HP1.out.st.ext) t bt 1000 T1 HP1.out.st.st _ X (own_rd HX11.out) (by rw [HXL.out]; exact shut_of w HA.out) (trieT l).text (by rw [HXL.out]; exact (texts HA.out).head) (by decide) (by decide) (by have := HM1.out; omega) (fun x hx => by have := HP1.out.st.bd x hx; omega) (fun x hx => by have := HP1.out.st.bd x hx; omega)).mono ?_
        rintro e w12 hP
        rw [HXL.out] at hP
        obtain ⟨T2, P2⟩ := add_ok HP1.out.st (by decide) HI.out HP1.out.inv HA.out (fun t ht => by rw [HXL.out]; exact List.mem_append_left _ ht) (by have := HM1.out; omega) hP
        obtain rfl := P2.res
        have HP2 := Lib.hid P2
        have HS12 := Lib.hid (store_past HP1.out.st.st HS11.out (Ne.symm HBT.out.1) (fun z hz hz2 => by
          obtain ⟨y, hy, e⟩ := List.mem_map.1 hz
          have h1 := HP1.out.st.new y hy
          have h2 := HLT10.out z (.inr hz2)
          omega) P2.kp)
        have HM2 := Lib.hid (show T2.length ≤ 242 by have h1 := P2.len; have := textsL_len HA.out; have := HM1.out; omega)
        have hkey : ∀ k, k ∈ S2.map (·.1) ↔ k ∈ T2.map (·.1) := fun k => by
          rw [HO2.out.key, HO1.out.key, P2.key, HP1.out.key]
          simp only [List.map_nil, List.not_mem_nil, false_or]
          exact Or.comm
        have hnd1 := HO2.out.st.st.nd
        have hnd2 := P2.st.st.nd
        have HSAME := Lib.hid (fun k => order_same HI.out HO2.out.inv P2.inv hnd1 hnd2 hkey (by simpa using List.Perm.swap _ _ _) k)
        have HPERM := Lib.hid (show sortS (T2.map (·.1)) = sortS (S2.map (·.1)) from sortS_perm (keys_perm hnd2 hnd1 (fun k => (hkey k).symm)))
        clear hP P2 hkey hnd1 hnd2 HS11 HX11 HK11
        go_wp2_with fail
        refine (shashes_c w12 s bm 1000 S2 HS12.out (by have := HL2.out; omega)).mono ?_
        rintro e w13 ⟨av, rfl, hA⟩
        obtain ⟨KL, hKL⟩ : ∃ KL, KL = baL (sortS (S2.map (·.1))) := ⟨_, rfl⟩
        rw [← hKL] at hA
        have HKL := Lib.hid hKL
        obtain ⟨n, hn⟩ : ∃ n, n = S2.length := ⟨_, rfl⟩
        have hn242 : n ≤ 242 := by rw [hn]; exact HL2.out
        rw [← hn] at hA
        obtain ⟨aa', ac', hsl⟩ := hA.sl
        subst hsl
        have HKN := Lib.hid (show KL.length = n from by have := hA.len; simpa using this)
        have HA13 := Lib.hid hA
        have HS13 := Lib.hid (HS12.out.ext hA.ext)
        have HT13 := Lib.hid (HP2.out.st.grow hA.ext)
        clear hA hKL hn HS12
        go_wp2_with fail
        go_loopw [15] (fun iv wr => ShR w13 n iv wr) (fun iv _ => n - (intOf iv).toNat)
        case atStart => exact ⟨0, by omega, rfl, ExtR w13⟩
        case round =>
          obtain ⟨i, hi, rfl, hE⟩ := hrel
          have HE := Lib.hid hE
          clear hE
          by_cases hlt : i < n
          · have b1 : (i : Int) < (n : Int) := by omega
            obtain ⟨kk, hkk⟩ : ∃ kk, KL[i]? = some kk := ⟨_, List.getElem?_eq_getElem (by rw [HKN.out]; exact hlt)⟩
            obtain ⟨ga, rfl, hca⟩ := own_open HA13.out.own (by omega)
            have Q := Lib.hid (cell_ext (hca i kk hkk) HE.out)
            obtain ⟨e1, e2⟩ := HSAME.out kk.data.toList
            obtain ⟨cn, hcn⟩ : ∃ cn, cn = countO (atL S2 kk.data.toList) := ⟨_, rfl⟩
            obtain ⟨hn', hhn⟩ : ∃ hn', hn' = heldO (atL S2 kk.data.toList) := ⟨_, rfl⟩
            have HC1 := Lib.hid (show ∀ w1, Ext wr w1 → Calls Tryz.prog 32 #[.pointer (some ⟨s, 0, none⟩), .string kk] w1 fun e w' => e = .returned (.int .i64 cn) ∧ Ext w1 w' from fun w1 h1 => by
              rw [hcn]; exact scount_c w1 s bm 1000 S2 kk ((HS13.out.ext HE.out).ext h1) (fun x hx => by have := HO2.out.st.bd x hx; omega))
            have HC2 := Lib.hid (show ∀ w1, Ext wr w1 → Calls Tryz.prog 32 #[.pointer (some ⟨t, 0, none⟩), .string kk] w1 fun e w' => e = .returned (.int .i64 cn) ∧ Ext w1 w' from fun w1 h1 => by
              rw [hcn, e1]; exact scount_c w1 t bt 1000 T2 kk ((HT13.out.st.ext HE.out).ext h1) (fun x hx => by have := HT13.out.bd x hx; omega))
            have HH1 := Lib.hid (show ∀ w1, Ext wr w1 → Calls Tryz.prog 36 #[.pointer (some ⟨s, 0, none⟩), .string kk] w1 fun e w' => e = .returned (.int .i64 hn') ∧ Ext w1 w' from fun w1 h1 => by
              rw [hhn]; exact sheld_c w1 s bm 1000 S2 kk ((HS13.out.ext HE.out).ext h1))
            have HH2 := Lib.hid (show ∀ w1, Ext wr w1 → Calls Tryz.prog 36 #[.pointer (some ⟨t, 0, none⟩), .string kk] w1 fun e w' => e = .returned (.int .i64 hn') ∧ Ext w1 w' from fun w1 h1 => by
              rw [hhn, e2]; exact sheld_c w1 t bt 1000 T2 kk ((HT13.out.st.ext HE.out).ext h1))
            have HQ1 := Lib.hid (show ∀ w1, Ext wr w1 → (Instr.loadAt 9 (.pointer (some ⟨ga, i, none⟩))).run Tryz.prog w1 = .ok (.string kk) w1 from fun w1 h1 => run_load_plain Tryz.underlying9 rfl (cell_ext Q.out h1))
            have hcc : (cn != cn) = false := by simp
            have hhh : (hn' != hn') = false := by simp
            clear hkk hca e1 e2 hcn hhn Q
            go_wp2_with fail
            refine wp_region_mixK [0,1,2,3,4,5,6,7,8,9,10,11,12,13,14,15,16,17,18,19,20,21,22,23,24,25,26,27] Ext ExtR ExtT (by kernel_rfl) (by kernel_rfl) (by kernel_rfl) ?_
            iterate 4 (refine mixk_pure _ rfl (by kernel_rfl) rfl rfl (fun K hK => ?_); go_big_quiet_op; refine hK _ ?_; clear hK K)
            refine mixk_load ⟨ga, i, none⟩ _ rfl (by kernel_rfl) rfl rfl (fun w1 h1 => HQ1.out w1 ((drewE wr).trans h1)) ?_
            simp only [Act.put, List.setIfInBounds_toArray, List.set_cons_zero, List.set_cons_succ]
            refine mixk_call _ 32 _ (.int .i64 cn) rfl (by kernel_rfl) rfl (fun w1 => exec_call Tryz.enterCount6 (by kernel_rfl)) (fun w1 h1 => HC1.out w1 ((drewE wr).trans h1)) ?_
            simp only [Act.put, List.setIfInBounds_toArray, List.set_cons_zero, List.set_cons_succ]
            iterate 4 (refine mixk_pure _ rfl (by kernel_rfl) rfl rfl (fun K hK => ?_); go_big_quiet_op; refine hK _ ?_; clear hK K)
            refine mixk_load ⟨ga, i, none⟩ _ rfl (by kernel_rfl) rfl rfl (fun w1 h1 => HQ1.out w1 ((drewE wr).trans h1)) ?_
            simp only [Act.put, List.setIfInBounds_toArray, List.set_cons_zero, List.set_cons_succ]
            refine mixk_call _ 32 _ (.int .i64 cn) rfl (by kernel_rfl) rfl (fun w1 => exec_call Tryz.enterCount6 (by kernel_rfl)) (fun w1 h1 => HC2.out w1 ((drewE wr).trans h1)) ?_
            simp only [Act.put, List.setIfInBounds_toArray, List.set_cons_zero, List.set_cons_succ]
            iterate 6 (refine mixk_pure _ rfl (by kernel_rfl) rfl rfl (fun K hK => ?_); go_big_quiet_op; refine hK _ ?_; clear hK K)
            refine mixk_load ⟨ga, i, none⟩ _ rfl (by kernel_rfl) rfl rfl (fun w1 h1 => HQ1.out w1 ((drewE wr).trans h1)) ?_
            simp only [Act.put, List.setIfInBounds_toArray, List.set_cons_zero, List.set_cons_succ]
            refine mixk_call _ 36 _ (.int .i64 hn') rfl (by kernel_rfl) rfl (fun w1 => exec_call Tryz.enterHeld6 (by kernel_rfl)) (fun w1 h1 => HH1.out w1 ((drewE wr).trans h1)) ?_
            simp only [Act.put, List.setIfInBounds_toArray, List.set_cons_zero, List.set_cons_succ]
            iterate 4 (refine mixk_pure _ rfl (by kernel_rfl) rfl rfl (fun K hK => ?_); go_big_quiet_op; refine hK _ ?_; clear hK K)
            refine mixk_load ⟨ga, i, none⟩ _ rfl (by kernel_rfl) rfl rfl (fun w1 h1 => HQ1.out w1 ((drewE wr).trans h1)) ?_
            simp only [Act.put, List.setIfInBounds_toArray, List.set_cons_zero, List.set_cons_succ]
            refine mixk_call _ 36 _ (.int .i64 hn') rfl (by kernel_rfl) rfl (fun w1 => exec_call Tryz.enterHeld6 (by kernel_rfl)) (fun w1 h1 => HH2.out w1 ((drewE wr).trans h1)) ?_
            simp only [Act.put, List.setIfInBounds_toArray, List.set_cons_zero, List.set_cons_succ]
            iterate 2 (refine mixk_pure _ rfl (by kernel_rfl) rfl rfl (fun K hK => ?_); go_big_quiet_op; refine hK _ ?_; clear hK K)
            refine mixk_end (by kernel_rfl) (fun w3 he => ?_)
            have HE9 := Lib.hid (HE.out.trans ((drewE wr).trans he))
            clear he HC1 HC2 HH1 HH2 HQ1
            go_wp2_with fail
            go_roundw
            case rel => exact ⟨i + 1, by omega, by go_num, HE9.out⟩
            case measure => simp [intOf]; omega
          · have b1 : ¬ (i : Int) < (n : Int) := by omega
            go_wp2_with fail
            refine (shashes_c wr t bt 1000 T2 (HT13.out.st.ext HE.out) (by have := HM2.out; omega)).mono ?_
            rintro e w14 ⟨mv, rfl, hM⟩
            have hM2 := hM.rd
            rw [HPERM.out, ← HKL.out] at hM2
            have HM14 := Lib.hid hM2
            have HA14 := Lib.hid (SRow.rd ((HA13.out.mono HE.out).mono hM.ext))
            have HE14 := Lib.hid (HT13.out.ext.trans (HE.out.trans hM.ext))
            clear hM hM2 HE
            go_wp2_with fail
            refine (same2_c w14 _ mv KL KL HA14.out HM14.out (by rw [HKN.out]; omega) (by rw [HKN.out]; omega)).mono ?_
            rintro e w15 ⟨rfl, hE⟩
            rw [decide_eq_true rfl]
            have HE15 := Lib.hid (HE14.out.trans hE)
            clear hE HE14
            go_wp2_with fail
            go_ret
            exact ⟨rfl, HE15.out⟩
end
end Go.Proofs.YtneojlgbcaejmaaGreatDoor
/- StoreOrder, the card: the law is true for every input. -/
namespace Go.Proofs.YtneojlgbcaejmaaGreatDoor
section
open Go Go.ChangeShapes Go.WideShapes Go.ChangeAt Go.RowKit Go.ChangeMaps
set_option linter.unusedSimpArgs false
set_option linter.unusedVariables false
set_option maxRecDepth 100000 in
theorem storeOrder_contract (H : Type) (enc : TypeId × Value → H) (W : World) (base : Nat) (args : Array Value) (ds gs : List (DataW H)) (before : List MemPlace)
    (hval : ∀ (j : Nat) t v, Tryz.f10.params[j]? = some t → args[j]? = some v → Value.okWide Tryz.prog W .any base t v)
    (hW : DataW.Whole enc Tryz.prog Tryz.f10.params.toList Rows.storeOrderSpec.vars false W args.toList ds gs before) (hL : laidMetH Tryz.prog Rows.storeOrderRow.laid W) :
    Calls Tryz.prog 10 args W fun e W' => ∃ v, e = .returned v ∧ Rows.storeOrderSpec.post enc Tryz.prog Tryz.f10 false true false false W args v W' := by
  have hW' := hW
  obtain ⟨p, q, hA0, hV, rfl, hfz, hnd⟩ := hW
  have hA : DataW.TrodAll enc Tryz.prog W 0 (fun _ => true) true Tryz.f10.params.toList args.toList ds p := hA0
  rw [Tryz.params10] at hA hval
  obtain ⟨v0, v1, d0, d1, p0, p1, rfl, rfl, rfl, h0, h1⟩ := trodAll_two hA
  obtain ⟨rfl, rfl⟩ := trodVars_none hV
  obtain ⟨l0, hl0, hn0, hs0⟩ := open_entries (okWide_slice Tryz.underlying22 (hval 0 22 v0 rfl rfl)) h0
  obtain ⟨l1, hl1, hn1, hs1⟩ := open_entries (okWide_slice Tryz.underlying22 (hval 1 22 v1 rfl rfl)) h1
  clear hA0
  simp only [List.append_nil, List.nil_append] at hW'
  have hlt : ∀ x ∈ p0 ++ p1, x.block < W.heap.size := fun x hx => by simpa using hW'.lt x (by simpa using hx)
  refine (order_c W (cubes_of hL) v0 v1 l0 l1 hl0 hl1 hn0 hs0 hn1 hs1).mono fun e W' ⟨he, hE⟩ => ?_
  subst he
  have hb : Below W.heap.size W W' := ⟨hE.os, hE.tape, hE.output, hE.size, fun k hk => hE.block k hk (fun h => h)⟩
  have hres : DataW.TrodAll enc Tryz.prog W' 0 (fun b => decide (b < W.heap.size)) true [22, 22] [v0, v1] [d0, d1] (p0 ++ p1) := by
    simpa using trodAll_mk2 (Below.trod Tryz.laidOutK (by kernel_rfl) (of_decide_eq_true (by kernel_rfl)) h0 hb (fun x hx => hlt x (by simp [hx]))) (Below.trod Tryz.laidOutK (by kernel_rfl) (of_decide_eq_true (by kernel_rfl)) h1 hb (fun x hx => hlt x (by simp [hx])))
  refine ⟨_, rfl, _, _, _, [], p0 ++ p1, [], hW', trodAll_mk1 (shut_bool Tryz.underlying4 _), ?_, rfl, hb.frame _, fun h => by cases h⟩
  exact hres
set_option maxRecDepth 100000 in
theorem storeOrder_reads (os : Os) {H : Type} (enc : TypeId × Value → H) : ∃ places, DataW.whole enc Tryz.prog ((laidWorld os).forCall (fun _ _ => 0) ⟨#[], #[.slice none 0 0, .slice none 0 0], []⟩).memory Tryz.f10.params.toList Rows.storeOrderSpec.vars false #[.slice none 0 0, .slice none 0 0].toList 8 = some ([.nil, .nil], [], places) :=
  ⟨[], by kernel_rfl⟩
set_option maxRecDepth 100000 in
theorem storeOrder_lifted (os : Os) (started : os.Started) (H : Type) (enc : TypeId × Value → H) (F : Stop.Interp) :
    ReturnsInHanded {} Tryz.checked os 10 .any ((OpenSpec.ofChange Rows.storeOrderSpec).preRow enc Tryz.prog Tryz.f10 Rows.storeOrderRow.domain false Rows.storeOrderRow.laid) (((OpenSpec.ofChange Rows.storeOrderSpec).at F).post enc Tryz.prog Tryz.f10 false true false false) := by
  obtain ⟨places, hx⟩ := storeOrder_reads os enc
  refine returnsInHanded_of_row (C := Tryz.checked) (s := OpenSpec.ofChange Rows.storeOrderSpec) Tryz.ownK started (by kernel_rfl) Tryz.func10
    (witness_row_at (enc := enc) (C := Tryz.checked) false (laidWorld os) #[.slice none 0 0, .slice none 0 0] rfl (by kernel_rfl) (by kernel_rfl) (by kernel_rfl)
      (OpenSpec.preRow_of_cond 8 hx (by kernel_rfl) (fun k hk => by cases hk) (by kernel_rfl) (laid_met os _))) ?_
  intro W base args ds gs before hval hW _ _ _ hL _ _
  exact storeOrder_contract H enc W base args ds gs before hval hW hL
theorem storeOrder_said : Rows.StoreOrderSaid :=
  OpenClaim.holds_of_cond 10 Tryz.f10 rfl rfl rfl rfl rfl rfl rfl ⟨rfl, rfl, rfl, rfl, rfl⟩ rfl rfl rfl rfl rfl (by kernel_rfl) Tryz.func10 (by kernel_rfl)
    (of_decide_eq_true (by kernel_rfl)) (by unfold Func.isWrapper; first | (rw [if_pos (by decide +kernel)]; kernel_rfl) | (rw [if_neg (by decide +kernel)]; exact ⟨rfl, rfl⟩))
    (fun os started H enc _ F => by rw [OpenClaim.pre_eq_preRow]; exact storeOrder_lifted os started H enc F)
theorem storeOrderCard_holds : Rows.StoreOrderCardSaid :=
  Claim7.holds_tied_plain_at .later [] [.handle, .data] true (true, "d2c66192a8206f233295009093e67126f72cb59b0c21e1b9761392474d37febc") true
    storeOrder_said (fun _ h => by cases h) (by kernel_rfl) (fun _ h => by cases h) storeOrder_row_tie rfl ⟨rfl, rfl⟩ (by kernel_rfl) rfl
    (fun f fn hf hfn => by
      obtain rfl : f = 10 := Option.some.inj ((show Tryz.prog.funcNamed "guilloche/guillochelaw06.StoreOrder" = some 10 by kernel_rfl).symm.trans hf) |>.symm
      obtain rfl : fn = Tryz.f10 := (Option.some.inj (Tryz.func10.symm.trans hfn)).symm
      exact ⟨by kernel_rfl, fun j t ht => by
        rw [Tryz.params10] at ht
        have hm : t ∈ [22, 22] := by simpa using Array.mem_of_getElem? ht
        have hall : ([22, 22].all fun u => !Tryz.prog.wantsStandIn u) = true := by kernel_rfl
        exact (show Tryz.prog.wantsStandIn t = false by simpa using List.all_eq_true.1 hall t hm)⟩)
    (by kernel_rfl)
end
end Go.Proofs.YtneojlgbcaejmaaGreatDoor
