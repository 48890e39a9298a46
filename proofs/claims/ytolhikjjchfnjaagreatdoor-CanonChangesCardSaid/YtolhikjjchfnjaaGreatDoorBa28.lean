/- Parts of the proof, one behind the other: CanonZd. Each is under no condition but those that it states. -/
import Derived.Test.YtolhikjjchfnjaaGreatDoorBa27
/- canon: CanonOne, its walk. -/
namespace Go.Proofs.YtolhikjjchfnjaaGreatDoor
section
open Go Go.RowKit
set_option linter.unusedSimpArgs false
set_option linter.unusedVariables false
theorem rdp_one {w W : World} {g : Nat} {a b : ByteArray} (h : Blk W g (.cells #[.string a, .string b] 52)) : RdP W (.slice (some ⟨g, 0, none⟩) 1 1) [(a, b)] :=
  .inr ⟨g, 0, 1, rfl, h.lt, by simp, fun j x hx => by
    have hj : j = 0 := by
      have := (List.getElem?_eq_some_iff.1 hx).1
      simp at this; omega
    subst hj
    simp at hx; subst hx
    exact ⟨h.cell (i := 0) (by rfl), h.cell (i := 1) (by rfl)⟩⟩
set_option maxRecDepth 100000 in
set_option maxHeartbeats 8000000 in
theorem one_c (w : World) (hc : Cubes w) (a b : ByteArray) (hs : a.size ≤ 9223372036854775807 ∧ b.size ≤ 9223372036854775807) : Calls Tryz.prog 8 #[.agg #[.string a, .string b]] w fun e w' => e = .returned (.bool true) ∧ Ext w w' := by
  have HC := Lib.hid hc
  have HSZ := Lib.hid (show ∀ p ∈ [(a, b)], p.1.size ≤ 9223372036854775807 ∧ p.2.size ≤ 9223372036854775807 by intro p hp; simp at hp; subst hp; exact hs)
  clear hc hs
  go_enter Tryz.func8, Tryz.ntmps8
  go_wp2_with fail
  obtain ⟨w1, hw1⟩ : ∃ w1, w1 = w.alloc (.cells #[.string a, .string b] 52) := ⟨_, rfl⟩
  rw [← hw1]
  obtain ⟨g, hg⟩ : ∃ g, g = w.heap.size := ⟨_, rfl⟩
  have HX1 := Lib.hid (show Blk w1 g (.cells #[.string a, .string b] 52) by rw [hw1, hg]; exact Blk.new w _)
  have HE1 := Lib.hid (show Ext w w1 by rw [hw1]; exact (ExtR w).alloc _)
  rw [← hg]
  clear hg hw1
  refine (works5_c w1 (HC.out.ext HE1.out)).mono ?_
  rintro e w2 ⟨rfl, hE⟩
  have HE2 := Lib.hid (HE1.out.trans hE)
  have HX2 := Lib.hid (HX1.out.keeps hE (fun h => h))
  have q1 := HX2.out.cell (i := 0) (v := .string a) (by rfl)
  have q2 := HX2.out.cell (i := 1) (v := .string b) (by rfl)
  clear hE HE1 HX1
  go_wp2_with fail
  refine (few5_c _ _ [(a, b)] (rdp_one (w := w2) (Blk.new w2 (.cells #[.string a, .string b] 52))) (by simp) HSZ.out).mono ?_
  rintro e w3 ⟨rfl, hE⟩
  have hx3 := ((ExtR w2).alloc (.cells #[.string a, .string b] 52)).trans hE
  have HE3 := Lib.hid (HE2.out.trans hx3)
  have HX3 := Lib.hid (HX2.out.keeps hx3 (fun h => h))
  have q1 := HX3.out.cell (i := 0) (v := .string a) (by rfl)
  have q2 := HX3.out.cell (i := 1) (v := .string b) (by rfl)
  obtain ⟨fw, hfw⟩ : ∃ fw, fw = fewB [(a, b)] := ⟨_, rfl⟩
  rw [← hfw]
  clear hE hx3 HE2 HX2 hfw
  by_cases hck : checkN [(a, b)] = 0
  case neg =>
    go_wp2_with fail
    refine (top_bad _ _ [(a, b)] (rdp_one (w := w3) (Blk.new w3 (.cells #[.string a, .string b] 52))) (by simp) HSZ.out hck).mono ?_
    rintro e w4 ⟨rfl, hE⟩
    have hx4 := ((ExtR w3).alloc (.cells #[.string a, .string b] 52)).trans hE
    have HE4 := Lib.hid (HE3.out.trans hx4)
    obtain ⟨x, hx⟩ : ∃ x, x = checkN [(a, b)] := ⟨_, rfl⟩
    rw [← hx] at hck ⊢
    have hne : (x == 0) = false := by simpa using hck
    have hne2 : (x != 0) = true := by simpa using hck
    clear hE hx4 HE3 HX3 hck hx q1 q2
    cases fw with
    | true =>
      go_wp2_with fail
      go_ret
      exact ⟨rfl, HE4.out⟩
    | false =>
      go_wp2_with fail
      go_ret
      exact ⟨rfl, HE4.out⟩
  have HCK := Lib.hid hck
  clear hck
  go_wp2_with fail
  refine (top_ok _ _ [(a, b)] (HC.out.ext (HE3.out.alloc _)) (rdp_one (w := w3) (Blk.new w3 (.cells #[.string a, .string b] 52))) HCK.out).mono ?_
  rintro e w4 ⟨rfl, hE⟩
  have hx4 := ((ExtR w3).alloc (.cells #[.string a, .string b] 52)).trans hE
  have HE4 := Lib.hid (HE3.out.trans hx4)
  have HX4 := Lib.hid (HX3.out.keeps hx4 (fun h => h))
  rw [one_text HCK.out]
  clear hE hx4 HE3 HX3 q1 q2
  cases fw with
  | false =>
    go_wp2_with fail
    go_ret
    exact ⟨rfl, HE4.out⟩
  | true =>
    obtain ⟨tx, htx⟩ : ∃ tx, tx = nodeB (oneN a b) := ⟨_, rfl⟩
    rw [← htx]
    have HT := Lib.hid htx
    clear htx
    go_wp2_with fail
    rw [HT.out]
    refine (get_c4 (inlP 12) w4 (oneN a b) (one_good HCK.out)).mono ?_
    rintro e w5 ⟨rfl, hE⟩
    rw [← HT.out]
    have HE5 := Lib.hid (HE4.out.trans hE)
    have HX5 := Lib.hid (HX4.out.keeps hE (fun h => h))
    have q1 := HX5.out.cell (i := 0) (v := .string a) (by rfl)
    have q2 := HX5.out.cell (i := 1) (v := .string b) (by rfl)
    clear hE HE4 HX4
    go_wp2_with (refine wpList_new Tryz.allocNode rfl rfl ?_; intro W3 hB3 hE3; refine wpList_fill (vs := (oneN a b).cells) rfl rfl rfl rfl hB3 (by rw [(oneN a b).cells_len (by rfl)]; rfl) (by rw [(oneN a b).cells_len (by rfl)]; exact Tryz.szNode) (NodeT.one _) ?_; intro W4 hB4 hE4; have hE34 : Ext w5 W4 := hE3.trans' hE4 (fun x hx e => by have e : x = w5.heap.size := e; omega); have q1' := cell_ext q1 hE34; have q2' := cell_ext q2 hE34)
    have HE6 := Lib.hid (HE5.out.trans hE34)
    have HX6 := Lib.hid (HX5.out.keeps hE34 (fun h => h))
    have HN6 := Lib.hid hB4
    clear hB3 hE3 hE4 hB4 q1 q2 q1' q2' HE5 HX5
    refine (nodes_ok _ _ [(a, b)] (HC.out.ext (HE6.out.alloc _)) (rdp_one (w := W4) (Blk.new W4 (.cells #[.string a, .string b] 52))) HCK.out).mono ?_
    rintro e w7 ⟨u7, n7, rfl, hR⟩
    have hn7 : n7 = 1 := by have := hR.len; rw [List.length_map, one_nodes] at this; omega
    subst hn7
    obtain ⟨a7, c7, rfl⟩ := hR.sl
    have hx7 := ((ExtR W4).alloc (.cells #[.string a, .string b] 52)).trans hR.ext
    have HE7 := Lib.hid (HE6.out.trans hx7)
    have HX7 := Lib.hid (HX6.out.keeps hx7 (fun h => h))
    have HN7 := Lib.hid (HN6.out.keeps hx7 (fun h => h))
    clear hR hx7 HE6 HX6 HN6
    go_wp2_with fail
    refine (top_ok w7 (.slice none 0 0) [] (HC.out.ext HE7.out) (.inl ⟨none, 0, rfl, rfl⟩) ex_nil).mono ?_
    rintro e w8 ⟨rfl, hE⟩
    rw [nil_text]
    obtain ⟨ty, hty⟩ : ∃ ty, ty = nodeB emptyN := ⟨_, rfl⟩
    rw [← hty]
    have HY := Lib.hid hty
    have HE8 := Lib.hid (HE7.out.trans hE)
    have HX8 := Lib.hid (HX7.out.keeps hE (fun h => h))
    have HN8 := Lib.hid (HN7.out.keeps hE (fun h => h))
    clear hE HE7 HX7 HN7 hty
    go_wp2_with fail
    rw [HY.out]
    refine (get_c4 (inlP 12) w8 emptyN nil_good).mono ?_
    rintro e w9 ⟨rfl, hE⟩
    rw [← HY.out]
    have HE9 := Lib.hid (HE8.out.trans hE)
    have HX9 := Lib.hid (HX8.out.keeps hE (fun h => h))
    have HN9 := Lib.hid (HN8.out.keeps hE (fun h => h))
    clear hE HE8 HX8 HN8
    have hsa : a.size ≤ 1000000000 := by have h := (check_ok HCK.out).size (a, b) (by simp); simp only at h; omega
    obtain ⟨P, hP⟩ : ∃ P, P = pathB a := ⟨_, rfl⟩
    have hps : P.size = 2 * a.size := by rw [hP]; exact path_size a
    have hpe : ((P.size : Int) == 2 * (a.size : Int)) = true := by simp; omega
    have q1 := HX9.out.cell (i := 0) (v := .string a) (by rfl)
    have q2 := HX9.out.cell (i := 1) (v := .string b) (by rfl)
    have r0 := HN9.out.cell (i := 0) (v := .int .i64 1) (by rfl)
    have r1 : w9.cell? ⟨w5.heap.size, 1, none⟩ = some (.string P) := by rw [hP]; exact HN9.out.cell (i := 1) (v := .string (pathB a)) (by rfl)
    have r2 := HN9.out.cell (i := 2) (v := .string b) (by rfl)
    clear hP hps
    go_wp2_with (refine wpList_new Tryz.allocNode rfl rfl ?_; intro W10 hB10 hE10; refine wpList_fill (vs := emptyN.cells) rfl rfl rfl rfl hB10 rfl Tryz.szNode (NodeT.one _) ?_; intro W11 hB11 hE11; have hE34 : Ext w9 W11 := hE10.trans' hE11 (fun x hx e => by have e : x = w9.heap.size := e; omega); have q1' := cell_ext q1 hE34; have q2' := cell_ext q2 hE34; have r0' := cell_ext r0 hE34; have r1' := cell_ext r1 hE34; have r2' := cell_ext r2 hE34; have s0 := hB11.cell (i := 0) (v := .int .i64 0) (by rfl))
    go_ret
    exact ⟨rfl, HE9.out.trans hE34⟩
end
end Go.Proofs.YtolhikjjchfnjaaGreatDoor
