/- Parts of the proof, one behind the other: RlpZc. Each is under no condition but those that it states. -/
import Derived.Test.YtjogjmffkmfmbaaGreatDoorPt33
import Derived.Test.YtjogjmffkmfmbaaGreatDoorPt34
import Derived.Test.YtjogjmffkmfmbaaGreatDoorPt16
import Derived.RangeFuncCalls
/- rlp: Items of a text that is no row of items. -/
namespace Go.Proofs.YtjogjmffkmfmbaaGreatDoor
section
open Go Go.RowKit
set_option linter.unusedSimpArgs false
set_option linter.unusedVariables false
attribute [local go_sem] Oper.semAt_some
structure ItN (w : World) (g m : Nat) (s : ByteArray) (k : Nat) (W : World) : Prop where
  ext : Ext w W
  b2 : Blk W g (.cells #[.slice none 0 0] 22)
  b3 : Blk W (g + 1) (.cells #[.int .i64 0] 26)
  bc : Blk W (g + 3) (.cells #[.string s] 9)
  row : ∃ v xs, Blk W (g + 2) (.cells #[v] 22) ∧ W.ownsRow 0 9 1 v k xs ∧ ∀ b, v.ownBlock = some b → m + 2 ≤ b
theorem ItN.st {w : World} {g m : Nat} {s : ByteArray} {k : Nat} {W W' : World} (h : ItN w g m s k W) (e : Ext W W') : ItN w g m s k W' :=
  let ⟨v, xs, h1, h2, h3⟩ := h.row
  ⟨h.ext.trans e, h.b2.keeps e (fun h => h), h.b3.keeps e (fun h => h), h.bc.keeps e (fun h => h), v, xs, h1.keeps e (fun h => h), own_ext h2 e, h3⟩
theorem ItN.put {w : World} {g m : Nat} {s : ByteArray} {k : Nat} {W : World} (h : ItN w g m s k W) {r : Nat} (hr : w.heap.size ≤ r) (h1 : g + 3 < r) (h2 : r < m + 2) (o : Obj) : ItN w g m s k (W.putObj r o) :=
  let ⟨v, xs, h3, h4, h5⟩ := h.row
  ⟨h.ext.putObj (.inr hr) _, h.b2.put_other (by omega) _, h.b3.put_other (by omega) _, h.bc.put_other (by omega) _, v, xs, h3.put_other (by omega) _,
    own_keeps h4 (Keeps.onePut W r o) (fun b hb e => by have := h5 b hb; omega), h5⟩
/-- What is told where Items fail. -/
structure ItX (w : World) (g : Nat) (W : World) : Prop where
  ext : Ext w W
  b2 : Blk W g (.cells #[.slice none 0 0] 22)
  b3 : Blk W (g + 1) (.cells #[.int .i64 2] 26)
theorem ItX.st {w : World} {g : Nat} {W W' : World} (h : ItX w g W) (e : Ext W W') : ItX w g W' := ⟨h.ext.trans e, h.b2.keeps e (fun h => h), h.b3.keeps e (fun h => h)⟩
theorem ItX.put {w : World} {g : Nat} {W : World} (h : ItX w g W) {r : Nat} (hr : w.heap.size ≤ r) (h1 : g + 1 < r) (o : Obj) : ItX w g (W.putObj r o) := ⟨h.ext.putObj (.inr hr) _, h.b2.put_other (by omega) _, h.b3.put_other (by omega) _⟩
def va0 (vs : Array Value) : Value := vs.getD 0 undef
def va1 (vs : Array Value) : Value := vs.getD 1 undef
theorem Fa2.put {W : World} {b r : Nat} {o L : _} (h : Fa2 W b) (hB : Blk W r (.loop L)) : Fa2 (W.putObj r o) b := by
  obtain ⟨c, k, l, h1, h2⟩ := h
  have ne : ∀ {x : Nat} {cs T}, Blk W x (.cells cs T) → x ≠ r := fun hx e => by
    subst e
    have := hx.symm.trans hB
    cases this
  exact ⟨c, k, l, h1.put_other (ne h1) _, h2.put_other (ne h2) _⟩
set_option maxRecDepth 100000 in
set_option maxHeartbeats 2000000 in
theorem items_no (w : World) (hG : ErrT w) (xs : List ByteArray) (z0 : ByteArray) (hx : ∀ x ∈ xs, IsItem x) (hs : (catB xs ++ z0).size ≤ 1000000000) (hn : xs.length ≤ 1000000) (hz0 : 0 < z0.size) (hcz : cutN z0 = none) : Calls Tryz.prog 131 #[.string (catB xs ++ z0)] w fun e w' => e = .returned (.tuple #[.slice none 0 0, .int .i64 2]) ∧ Ext w w' := by
  obtain ⟨i0, hi, hz, hz1, hz2⟩ := info_parts Tryz.infoStr
  have hIT := fun b => each_itN b xs z0 hx hs hz0 hcz
  obtain ⟨s, hsd⟩ : ∃ s, s = catB xs ++ z0 := ⟨_, rfl⟩
  rw [← hsd] at hIT ⊢
  have HIT := Lib.hid hIT
  have HG := Lib.hid hG
  clear hsd hIT hs hx hz0 hcz hG
  rw [← callsIn_wide (n := 0)]
  refine callsIn_of_wp_marks Tryz.func131 rfl trivial ?_ rfl
  simp only [Tryz.ntmps131, List.size_toArray, List.length_cons, List.length_nil, Nat.reduceAdd, Nat.reduceSub, Array.replicate_succ, Array.replicate_zero, List.push_toArray, List.append_toArray, List.nil_append, List.cons_append]
  gi_wp2_with fail
  obtain ⟨W0, hW0⟩ : ∃ W0, W0 = ((w.alloc (.cells #[.slice none 0 0] 22)).alloc (.cells #[.int .i64 0] 26)).alloc (.cells #[.slice none 0 0] 22) := ⟨_, rfl⟩
  rw [← hW0]
  have hs0 : W0.heap.size = w.heap.size + 3 := by rw [hW0]; simp
  have E0 : Ext w W0 := by rw [hW0]; exact ((((ExtR w).alloc _).alloc _).alloc _)
  have B2 : Blk W0 w.heap.size (.cells #[.slice none 0 0] 22) := by rw [hW0]; exact ((Blk.new w _).alloc _).alloc _
  have B3 : Blk W0 (w.heap.size + 1) (.cells #[.int .i64 0] 26) := by
    rw [hW0]; have := (Blk.new (w.alloc (.cells #[.slice none 0 0] 22)) (.cells #[.int .i64 0] 26)).alloc (.cells #[.slice none 0 0] 22); rwa [World.size_alloc] at this
  have B4 : Blk W0 (w.heap.size + 2) (.cells #[.slice none 0 0] 22) := by
    rw [hW0]; have := (Blk.new ((w.alloc (.cells #[.slice none 0 0] 22)).alloc (.cells #[.int .i64 0] 26)) (.cells #[.slice none 0 0] 22)); rwa [World.size_alloc, World.size_alloc] at this
  clear hW0
  refine ⟨trivial, rfl, CallsIn.mono (callsIn_wide.2 (each_c W0 s)) ?_⟩
  rintro e w1 ⟨rfl, hbc, hE⟩
  rw [hs0] at hbc ⊢
  have S0 : ItN w w.heap.size w1.heap.size s 0 w1 := ⟨E0.trans hE, B2.keeps hE (fun h => h), B3.keeps hE (fun h => h), hbc, _, [], B4.keeps hE (fun h => h), World.ownsRow_nil _ _ _ _, fun b hb => by cases hb⟩
  have hl1 := hbc.lt
  have HS0 := Lib.hid S0
  clear hs0 E0 B2 B3 B4 hbc hE S0 W0
  gi_wp2_with fail
  refine wp_rangeV (N := xs.length + 1) (gf := 208) (lb := #[.pointer (some ⟨w.heap.size + 3, 0, none⟩)]) rfl Tryz.enterEach1 (HIT.out (w.heap.size + 3))
    (fun k W vs h => by rcases h with ⟨_, rfl⟩ | ⟨_, b, rfl, _⟩ <;> rfl)
    (fun k W vs L o h hB => h.imp id fun ⟨h1, b, h2, h3⟩ => ⟨h1, b, h2, h3.put hB⟩)
    (fun k W => k ≤ xs.length ∧ ItN w w.heap.size w1.heap.size s k W) (fun cd _ W => cd = .ret ∧ ItX w w.heap.size W)
    (fun k W W' h e => ⟨h.1, h.2.st e⟩) (fun cd _ W W' h e => ⟨h.1, h.2.st e⟩) (fun k W h => h.2.bc)
    (fun k W o h => ⟨h.1, h.2.put (by omega) (by omega) (by omega) _⟩)
    (fun k W o h => ⟨h.1, h.2.put (by omega) (by omega) (by omega) _⟩) (fun cd _ W o h => ⟨h.1, h.2.put (by omega) (by omega) _⟩)
    ⟨Nat.zero_le _, HS0.out⟩ (fun vs => { tmps := #[.string s, undef, .pointer (some ⟨w.heap.size, 0, none⟩), .pointer (some ⟨w.heap.size + 1, 0, none⟩), .pointer (some ⟨w.heap.size + 1 + 1, 0, none⟩), va0 vs, va1 vs, undef, undef, .string s, .func (.func 208) #[] #[.pointer (some ⟨w.heap.size + 3, 0, none⟩)], va0 vs, va1 vs, undef, undef, undef, undef, undef, undef, undef, undef, undef, undef, undef, undef, undef], defers := [] })
    ?hassign ?hbody ?hdone ?hstop
  case hassign =>
    intro l j W vs K hj hV hK
    obtain ⟨a, b, rfl⟩ : ∃ a b, vs = #[a, b] := by rcases hV with ⟨_, rfl⟩ | ⟨_, b, rfl, _⟩ <;> exact ⟨_, _, rfl⟩
    rw [fold2]
    simp only [List.set_cons_zero, List.set_cons_succ]
    gi_wp2
    exact hK
  case hbody =>
    rintro l k W vs hk ⟨hkl, hS⟩ hV hlt
    rcases hV with ⟨hlk, rfl⟩ | ⟨rfl, b, rfl, hF⟩
    · have e0 : va0 #[.string (xs.getD k ⟨#[]⟩), .nilIface] = .string (xs.getD k ⟨#[]⟩) := rfl
      have e1 : va1 #[.string (xs.getD k ⟨#[]⟩), .nilIface] = .nilIface := rfl
      rw [e0, e1]
      obtain ⟨v, ys, h1, h2, h3⟩ := hS.row
      obtain ⟨ad, cp, rfl⟩ := row_slice h2
      obtain ⟨x, hxk⟩ : ∃ x, x = xs.getD k ⟨#[]⟩ := ⟨_, rfl⟩
      rw [← hxk]
      have q4 : W.cell? ⟨w.heap.size + 1 + 1, 0, none⟩ = some (.slice ad k cp) := h1.cell (i := 0) (by rfl)
      have f4 : W.frozen? ⟨w.heap.size + 1 + 1, 0, none⟩ = false := h1.frozen
      have HS := Lib.hid hS
      have H1 := Lib.hid h1
      have H2 := Lib.hid h2
      have H3 := Lib.hid h3
      clear hS h1 h2 h3 hxk e0 e1
      gi_wp2_with (gi_at_builtin; refine wpListIn_append_any _ rfl (.tmp 21) (.tmp 23) 22 rfl 9 i0 _ 1 16 Tryz.uStrs hi hz hz1 hz2 rfl (by decide) (.slice ad k cp) k _ rfl (own_ext H2.out ((ExtR W).alloc _)) ⟨W.heap.size, 0, none⟩ 1 1 [.string x] rfl rfl (news_blk (Blk.new W _)) (by simp [Value.oneCell']) (by unfold maxLen; omega) (by omega) ?_)
      intro v' w6 r1 r2 r3
      have K6 : Keeps (fun b => (Value.slice ad k cp).ownBlock = some b) W w6 := ((Keeps.refl _ W).alloc _).trans r2
      have hlt1 := HS.out.b2.lt
      have hlt4 := H1.out.lt
      have hw3 : w.heap.size ≤ w1.heap.size := by omega
      have nb : ∀ b, b < w1.heap.size + 2 → ¬ (Value.slice ad k cp).ownBlock = some b := fun b hb e => by have := H3.out b e; omega
      obtain ⟨ad', cp', rfl⟩ := row_slice r1
      have hv' : ∀ b, (Value.slice ad' (k + 1) cp').ownBlock = some b → w1.heap.size + 2 ≤ b := fun b hb => by
        rcases r3 with r3 | r3
        · exact H3.out b (r3 ▸ hb)
        · have := r3 b hb; omega
      have B4 := H1.out.keeps K6 (nb _ (by omega))
      have q4' : w6.cell? ⟨w.heap.size + 1 + 1, 0, none⟩ = some (.slice ad k cp) := B4.cell (i := 0) (by rfl)
      have f4' : w6.frozen? ⟨w.heap.size + 1 + 1, 0, none⟩ = false := B4.frozen
      have HK6 := Lib.hid K6
      have HB4 := Lib.hid B4
      have R1 := Lib.hid r1
      have HV' := Lib.hid hv'
      have NB := Lib.hid nb
      clear K6 r1 r2 r3 hv' B4 nb q4 f4
      gi_wp2
      have k7 : Keeps (fun b => b = w.heap.size + 1 + 1) w6 (w6.setCell ⟨w.heap.size + 1 + 1, 0, none⟩ (.slice ad' (k + 1) cp')) := Keeps.oneSet w6 ⟨w.heap.size + 1 + 1, 0, none⟩ _
      refine ⟨(HK6.out.mono (fun x _ e => ?_)).trans' k7 (fun x _ e => ?_), ?_⟩
      · have := H3.out x e; show x ≠ _ ∧ x ≠ _; omega
      · have e : x = _ := e; show x ≠ _ ∧ x ≠ _; omega
      · refine ⟨by omega, (HS.out.ext.trans' HK6.out (fun x hx e => by have := H3.out x e; omega)).trans' k7 (fun x hx e => by have e : x = _ := e; omega),
          (HS.out.b2.keeps HK6.out (NB.out _ (by omega))).keeps k7 (fun e => by omega), (HS.out.b3.keeps HK6.out (NB.out _ (by omega))).keeps k7 (fun e => by omega), (HS.out.bc.keeps HK6.out (NB.out _ (by omega))).keeps k7 (fun e => by omega),
          _, _, HB4.out.set_same (i := 0) _, own_keeps R1.out k7 (fun b hb e => by have := HV'.out b hb; omega), HV'.out⟩
    · have e0 : va0 #[.string ⟨#[]⟩, .iface 274 (.pointer (some ⟨b, 0, none⟩))] = .string ⟨#[]⟩ := rfl
      have e1 : va1 #[.string ⟨#[]⟩, .iface 274 (.pointer (some ⟨b, 0, none⟩))] = .iface 274 (.pointer (some ⟨b, 0, none⟩)) := rfl
      rw [e0, e1]
      have hq : ∀ w, (binOp .neq 120 (.iface 274 (.pointer (some ⟨b, 0, none⟩))) .nilIface).run Tryz.prog w = .ok (.bool true) w := fun w => by kernel_rfl
      have HS := Lib.hid hS
      have HF := Lib.hid hF
      clear hS hF e0 e1
      gi_wp2_with fail
      refine ⟨trivial, rfl, CallsIn.mono (CallsIn.inRound l (callsIn_wide.2 (why_c W b (HG.out.ext HS.out.ext) HF.out))) ?_⟩
      rintro e w5 ⟨kk, rfl, hE⟩
      have B2 := HS.out.b2.keeps hE (fun h => h)
      have B3 := HS.out.b3.keeps hE (fun h => h)
      have f2 : w5.frozen? ⟨w.heap.size, 0, none⟩ = false := B2.frozen
      have f3 : w5.frozen? ⟨w.heap.size + 1, 0, none⟩ = false := B3.frozen
      have q2 := B2.cell (i := 0) (v := .slice none 0 0) (by rfl)
      have q3 := B3.cell (i := 0) (v := .int .i64 0) (by rfl)
      have HB2 := Lib.hid B2
      have HB3 := Lib.hid B3
      have HE := Lib.hid hE
      have hlt1 := B2.lt
      clear B2 B3 hE
      gi_wp2
      have C2 := (HB2.out.set_same (i := 0) (.slice none 0 0)).set_other (p := ⟨w.heap.size + 1, 0, none⟩) (by show w.heap.size ≠ w.heap.size + 1; omega) (.int .i64 2)
      have C3 := (HB3.out.set_other (p := ⟨w.heap.size, 0, none⟩) (by show w.heap.size + 1 ≠ w.heap.size; omega) (.slice none 0 0)).set_same (i := 0) (.int .i64 2)
      have K5 : Keeps (fun b => b = w.heap.size ∨ b = w.heap.size + 1) W ((w5.setCell ⟨w.heap.size, 0, none⟩ (.slice none 0 0)).setCell ⟨w.heap.size + 1, 0, none⟩ (.int .i64 2)) :=
        ((HE.out.mono (fun _ _ h => h.elim)).setCell (.inl (.inl rfl)) _).setCell (.inl (.inr rfl)) _
      refine ⟨K5.mono (fun x hx e => ?_), ?_⟩
      · show x ≠ _ ∧ x ≠ _; omega
      · exact ⟨rfl, HS.out.ext.trans' K5 (fun x hx e => by omega), C2, C3⟩
  case hdone =>
    rintro W ⟨h, _⟩ hd
    omega
  case hstop =>
    rintro cd k W hk hk0 ⟨rfl, h⟩ hd
    have HX := Lib.hid h
    have HD := Lib.hid hd
    clear h hd
    have K3 : Ext w (W.putObj w1.heap.size (.deferred none)) := HX.out.ext.putObj (.inr (by omega)) _
    have c2 : (W.putObj w1.heap.size (.deferred none)).cell? ⟨w.heap.size, 0, none⟩ = some (.slice none 0 0) := (HX.out.b2.put_other (by omega) _).cell (i := 0) (by simp)
    have c3 : (W.putObj w1.heap.size (.deferred none)).cell? ⟨w.heap.size + 1, 0, none⟩ = some (.int .i64 2) := (HX.out.b3.put_other (by omega) _).cell (i := 0) (by simp)
    gi_wp2
    refine ⟨by simp, .inl ⟨_, _, rfl, run_takeDeferred HD.out, ?_⟩⟩
    exact ⟨.tuple #[.slice none 0 0, .int .i64 2], by simp [results, Tryz.results131, go_sem, c2, c3], rfl, K3⟩
end
end Go.Proofs.YtjogjmffkmfmbaaGreatDoor
