/- Parts of the proof, one behind the other: RlpE, RlpF, NodeI. Each is under no condition but those that it states. -/
import Derived.Test.YtneojlgbcaejmaaGreatDoorBa17
import Derived.Test.YtneojlgbcaejmaaGreatDoorBa16
/- rlp: Items (where they succeed). -/
namespace Go.Proofs.YtneojlgbcaejmaaGreatDoor
section
open Go Go.RowKit
set_option linter.unusedSimpArgs false
set_option linter.unusedVariables false
attribute [local go_sem] Oper.semAt_some
structure ItS (w : World) (g m : Nat) (xs : List ByteArray) (k : Nat) (W : World) : Prop where
  ext : Ext w W
  b2 : Blk W g (.cells #[.slice none 0 0] 57)
  b3 : Blk W (g + 1) (.cells #[.int .i64 0] 27)
  bc : Blk W (g + 3) (.cells #[.string (catB xs)] 9)
  row : ∃ v, Blk W (g + 2) (.cells #[v] 57) ∧ W.ownsRow 0 9 1 v k ((xs.take k).map Value.string) ∧ ∀ b, v.ownBlock = some b → m + 2 ≤ b
theorem ItS.st {w : World} {g m : Nat} {xs : List ByteArray} {k : Nat} {W W' : World} (h : ItS w g m xs k W) (e : Ext W W') : ItS w g m xs k W' :=
  let ⟨v, h1, h2, h3⟩ := h.row
  ⟨h.ext.trans e, h.b2.keeps e (fun h => h), h.b3.keeps e (fun h => h), h.bc.keeps e (fun h => h), v, h1.keeps e (fun h => h), own_ext h2 e, h3⟩
theorem ItS.put {w : World} {g m : Nat} {xs : List ByteArray} {k : Nat} {W : World} (h : ItS w g m xs k W) {r : Nat} (hr : w.heap.size ≤ r) (h1 : g + 3 < r) (h2 : r < m + 2) (o : Obj) : ItS w g m xs k (W.putObj r o) :=
  let ⟨v, h3, h4, h5⟩ := h.row
  ⟨h.ext.putObj (.inr hr) _, h.b2.put_other (by omega) _, h.b3.put_other (by omega) _, h.bc.put_other (by omega) _, v, h3.put_other (by omega) _,
    own_keeps h4 (Keeps.onePut W r o) (fun b hb e => by have := h5 b hb; omega), h5⟩
set_option maxRecDepth 100000 in
set_option maxHeartbeats 1000000 in
theorem items_c (w : World) (xs : List ByteArray) (hx : ∀ x ∈ xs, IsItem x) (hs : (catB xs).size ≤ 1000000000) (hn : xs.length ≤ 1000000) : Calls Tryz.prog 81 #[.string (catB xs)] w fun e w' => ∃ v, e = .returned (.tuple #[v, .int .i64 0]) ∧ SRow w w' v xs.length xs := by
  obtain ⟨i0, hi, hz0, hz1, hz2⟩ := info_parts Tryz.infoStr
  rw [← callsIn_wide (n := 0)]
  refine callsIn_of_wp_marks Tryz.func81 rfl trivial ?_ rfl
  simp only [Tryz.ntmps81, List.size_toArray, List.length_cons, List.length_nil, Nat.reduceAdd, Nat.reduceSub, Array.replicate_succ, Array.replicate_zero, List.push_toArray, List.append_toArray, List.nil_append, List.cons_append]
  gi_wp2_with fail
  obtain ⟨W0, hW0⟩ : ∃ W0, W0 = ((w.alloc (.cells #[.slice none 0 0] 57)).alloc (.cells #[.int .i64 0] 27)).alloc (.cells #[.slice none 0 0] 57) := ⟨_, rfl⟩
  rw [← hW0]
  have hs0 : W0.heap.size = w.heap.size + 3 := by rw [hW0]; simp
  have E0 : Ext w W0 := by rw [hW0]; exact ((((ExtR w).alloc _).alloc _).alloc _)
  have B2 : Blk W0 w.heap.size (.cells #[.slice none 0 0] 57) := by rw [hW0]; exact ((Blk.new w _).alloc _).alloc _
  have B3 : Blk W0 (w.heap.size + 1) (.cells #[.int .i64 0] 27) := by
    rw [hW0]; have := (Blk.new (w.alloc (.cells #[.slice none 0 0] 57)) (.cells #[.int .i64 0] 27)).alloc (.cells #[.slice none 0 0] 57); rwa [World.size_alloc] at this
  have B4 : Blk W0 (w.heap.size + 2) (.cells #[.slice none 0 0] 57) := by
    rw [hW0]; have := (Blk.new ((w.alloc (.cells #[.slice none 0 0] 57)).alloc (.cells #[.int .i64 0] 27)) (.cells #[.slice none 0 0] 57)); rwa [World.size_alloc, World.size_alloc] at this
  clear hW0
  refine ⟨trivial, rfl, CallsIn.mono (callsIn_wide.2 (each_c W0 (catB xs))) ?_⟩
  rintro e w1 ⟨rfl, hbc, hE⟩
  rw [hs0] at hbc ⊢
  have S0 : ItS w w.heap.size w1.heap.size xs 0 w1 := ⟨E0.trans hE, B2.keeps hE (fun h => h), B3.keeps hE (fun h => h), hbc, _, B4.keeps hE (fun h => h), World.ownsRow_nil _ _ _ _, fun b hb => by cases hb⟩
  have hl1 := hbc.lt
  have HS0 := Lib.hid S0
  clear hs0 E0 B2 B3 B4 hbc hE S0 W0
  gi_wp2_with fail
  refine wp_rangeE (N := xs.length) (gf := 139) (lb := #[.pointer (some ⟨w.heap.size + 3, 0, none⟩)]) rfl Tryz.enterEach1 (each_it (w.heap.size + 3) xs hx hs)
    (fun k => rfl) (ItS w w.heap.size w1.heap.size xs) (fun _ _ _ => False) (fun k W W' h e => h.st e) (fun _ _ _ _ h _ => h) (fun k W h => h.bc)
    (fun k W o h => h.put (by omega) (by omega) (by omega) _)
    (fun k W o h => h.put (by omega) (by omega) (by omega) _) (fun _ _ _ _ h => h)
    HS0.out (fun k => { tmps := #[.string (catB xs), undef, .pointer (some ⟨w.heap.size, 0, none⟩), .pointer (some ⟨w.heap.size + 1, 0, none⟩), .pointer (some ⟨w.heap.size + 1 + 1, 0, none⟩), .string (xs.getD k ⟨#[]⟩), .nilIface, undef, undef, .string (catB xs), .func (.func 139) #[] #[.pointer (some ⟨w.heap.size + 3, 0, none⟩)], .string (xs.getD k ⟨#[]⟩), .nilIface, undef, undef, undef, undef, undef, undef, undef, undef, undef, undef, undef, undef, undef], defers := [] })
    ?hassign ?hbody ?hdone ?hstop
  case hassign =>
    intro l j W K hK
    rw [fold2]
    simp only [List.set_cons_zero, List.set_cons_succ]
    gi_wp2
    exact hK
  case hbody =>
    intro l k W hk hS hlt
    obtain ⟨v, h1, h2, h3⟩ := hS.row
    obtain ⟨ad, cp, rfl⟩ := row_slice h2
    obtain ⟨x, hxk⟩ : ∃ x, x = xs.getD k ⟨#[]⟩ := ⟨_, rfl⟩
    rw [← hxk]
    have q4 : W.cell? ⟨w.heap.size + 1 + 1, 0, none⟩ = some (.slice ad k cp) := h1.cell (i := 0) (by rfl)
    have f4 : W.frozen? ⟨w.heap.size + 1 + 1, 0, none⟩ = false := h1.frozen
    have HS := Lib.hid hS
    have H1 := Lib.hid h1
    have H2 := Lib.hid h2
    have H3 := Lib.hid h3
    have HXK := Lib.hid hxk
    clear hS h1 h2 h3 hxk
    gi_wp2_with (gi_at_builtin; refine wpListIn_append_any _ rfl (.tmp 21) (.tmp 23) 57 rfl 9 i0 _ 1 16 Tryz.uStrs hi hz0 hz1 hz2 rfl (by decide) (.slice ad k cp) k _ rfl (own_ext H2.out ((ExtR W).alloc _)) ⟨W.heap.size, 0, none⟩ 1 1 [.string x] rfl rfl (news_blk (Blk.new W _)) (by simp [Value.oneCell']) (by unfold maxLen; omega) (by omega) ?_)
    intro v' w6 r1 r2 r3
    have K6 : Keeps (fun b => (Value.slice ad k cp).ownBlock = some b) W w6 := ((Keeps.refl _ W).alloc _).trans r2
    have e1 : ((xs.take k).map Value.string ++ [.string x]) = (xs.take (k + 1)).map Value.string := by
      rw [List.take_succ_eq_append_getElem hk, List.map_append, HXK.out]; simp [List.getD_eq_getElem?_getD, hk]
    have r1 : w6.ownsRow 0 9 1 v' (k + 1) ((xs.take (k + 1)).map Value.string) := by rw [← e1, List.map_take]; exact r1
    have hlt1 := HS.out.b2.lt
    have hlt4 := H1.out.lt
    have hw3 : w.heap.size ≤ w1.heap.size := by omega
    have nb : ∀ b, b < w1.heap.size + 2 → ¬ (Value.slice ad k cp).ownBlock = some b := fun b hb e => by have := H3.out b e; omega
    obtain ⟨ad', cp', rfl⟩ := row_slice r1
    have hv' : ∀ b, (Value.slice ad' (k + 1) cp').ownBlock = some b → w1.heap.size + 2 ≤ b := fun b hb => by
      rcases r3 with r3 | r3
      · exact H3.out b (r3 ▸ hb)
      · have := r3 b hb; omega
    have B4 := H1.out.keeps K6 (nb _ (by omega))
    have q4' : w6.cell? ⟨w.heap.size + 1 + 1, 0, none⟩ = some (.slice ad k cp) := B4.cell (i := 0) (by rfl)
    have f4' : w6.frozen? ⟨w.heap.size + 1 + 1, 0, none⟩ = false := B4.frozen
    have HK6 := Lib.hid K6
    have HB4 := Lib.hid B4
    have R1 := Lib.hid r1
    have HV' := Lib.hid hv'
    have NB := Lib.hid nb
    clear K6 r1 r2 r3 e1 hv' B4 nb q4 f4
    gi_wp2
    have k7 : Keeps (fun b => b = w.heap.size + 1 + 1) w6 (w6.setCell ⟨w.heap.size + 1 + 1, 0, none⟩ (.slice ad' (k + 1) cp')) := Keeps.oneSet w6 ⟨w.heap.size + 1 + 1, 0, none⟩ _
    refine ⟨(HK6.out.mono (fun x _ e => ?_)).trans' k7 (fun x _ e => ?_), ?_⟩
    · have := H3.out x e; show x ≠ _ ∧ x ≠ _; omega
    · have e : x = _ := e; show x ≠ _ ∧ x ≠ _; omega
    · refine ⟨(HS.out.ext.trans' HK6.out (fun x hx e => by have := H3.out x e; omega)).trans' k7 (fun x hx e => by have e : x = _ := e; omega),
        (HS.out.b2.keeps HK6.out (NB.out _ (by omega))).keeps k7 (fun e => by omega), (HS.out.b3.keeps HK6.out (NB.out _ (by omega))).keeps k7 (fun e => by omega), (HS.out.bc.keeps HK6.out (NB.out _ (by omega))).keeps k7 (fun e => by omega),
        _, HB4.out.set_same (i := 0) _, own_keeps R1.out k7 (fun b hb e => by have := HV'.out b hb; omega), HV'.out⟩
  case hdone =>
    intro W hS hd
    obtain ⟨v, h1, h2, h3⟩ := hS.row
    obtain ⟨ad, cp, rfl⟩ := row_slice h2
    have q4 : W.cell? ⟨w.heap.size + 1 + 1, 0, none⟩ = some (.slice ad xs.length cp) := h1.cell (i := 0) (by rfl)
    have q2 := hS.b2.cell (i := 0) (v := .slice none 0 0) (by rfl)
    have f2 : W.frozen? ⟨w.heap.size, 0, none⟩ = false := hS.b2.frozen
    have q3 := hS.b3.cell (i := 0) (v := .int .i64 0) (by rfl)
    have f3 : W.frozen? ⟨w.heap.size + 1, 0, none⟩ = false := hS.b3.frozen
    have HS := Lib.hid hS
    have H2 := Lib.hid h2
    have H3 := Lib.hid h3
    have HD := Lib.hid hd
    clear hS h1 h2 h3 hd
    gi_wp2
    obtain ⟨W3, hW3⟩ : ∃ W3, W3 = ((W.setCell ⟨w.heap.size, 0, none⟩ (.slice ad xs.length cp)).setCell ⟨w.heap.size + 1, 0, none⟩ (.int .i64 0)) := ⟨_, rfl⟩
    rw [← hW3]
    have B2 := (HS.out.b2.set_same (i := 0) (.slice ad xs.length cp)).set_other (p := ⟨w.heap.size + 1, 0, none⟩) (by show w.heap.size ≠ w.heap.size + 1; omega) (.int .i64 0)
    have B3 := (HS.out.b3.set_other (p := ⟨w.heap.size, 0, none⟩) (by show w.heap.size + 1 ≠ w.heap.size; omega) (.slice ad xs.length cp)).set_same (i := 0) (.int .i64 0)
    have BD := (HD.out.set_other (p := ⟨w.heap.size, 0, none⟩) (by show w1.heap.size ≠ w.heap.size; omega) (.slice ad xs.length cp)).set_other (p := ⟨w.heap.size + 1, 0, none⟩) (by show w1.heap.size ≠ w.heap.size + 1; omega) (.int .i64 0)
    rw [← hW3] at B2 B3 BD
    have K1 := (Keeps.oneSet W ⟨w.heap.size, 0, none⟩ (.slice ad xs.length cp))
    have K3 : Keeps (fun b => b = w.heap.size ∨ b = w.heap.size + 1 ∨ b = w1.heap.size) W (W3.putObj w1.heap.size (.deferred none)) := by
      rw [hW3]; exact (((Keeps.refl _ W).setCell (.inl (.inl rfl)) _).setCell (.inl (.inr (.inl rfl))) _).putObj (.inl (.inr (.inr rfl))) _
    have c2 : (W3.putObj w1.heap.size (.deferred none)).cell? ⟨w.heap.size, 0, none⟩ = some (.slice ad xs.length cp) := (B2.put_other (by omega) _).cell (i := 0) (by simp)
    have c3 : (W3.putObj w1.heap.size (.deferred none)).cell? ⟨w.heap.size + 1, 0, none⟩ = some (.int .i64 0) := (B3.put_other (by omega) _).cell (i := 0) (by simp)
    refine ⟨by simp, .inl ⟨_, _, rfl, run_takeDeferred BD, ?_⟩⟩
    refine ⟨.tuple #[.slice ad xs.length cp, .int .i64 0], by simp [results, Tryz.results81, go_sem, c2, c3], ?_⟩
    refine ⟨_, rfl, ⟨_, _, rfl⟩, ?_, HS.out.ext.trans' K3 (fun x hx e => by omega), fun b hb => by have := H3.out b hb; omega⟩
    have h5 := own_keeps H2.out K3 (fun b hb e => by have := H3.out b hb; omega)
    rwa [List.take_length] at h5
  case hstop => intro c k W _ _ h; exact h.elim
end
end Go.Proofs.YtneojlgbcaejmaaGreatDoor
/- rlp, plain laws: what cut tells of a text's item, and of a list's. -/
namespace Go.Proofs.YtneojlgbcaejmaaGreatDoor
section
open Go Go.RowKit
set_option linter.unusedSimpArgs false
set_option linter.unusedVariables false
theorem leF_beN : ∀ (f n : Nat), n < 256 ^ f → beN (leF f n).reverse = n
  | 0, n, h => by simp at h; subst h; rfl
  | f + 1, n, h => by
    unfold leF
    by_cases h0 : n = 0
    · rw [if_pos h0, h0]; rfl
    · rw [if_neg h0, List.reverse_cons, beN_snoc, leF_beN f (n / 256) (by rw [Nat.pow_succ] at h; omega)]
      have : (UInt8.ofNat n).toNat = n % 256 := rfl
      omega
theorem leF_last : ∀ (f n : Nat), n < 256 ^ f → 0 < n → ∃ x l, (leF f n).reverse = x :: l ∧ x ≠ 0
  | 0, n, h, h0 => by simp at h; omega
  | f + 1, n, h, h0 => by
    unfold leF
    rw [if_neg (by omega), List.reverse_cons]
    by_cases h1 : n / 256 = 0
    · have : leF f (n / 256) = [] := by rw [h1]; cases f <;> simp [leF]
      rw [this]
      refine ⟨_, _, rfl, fun e => ?_⟩
      have e2 : (UInt8.ofNat n).toNat = (0 : UInt8).toNat := by rw [e]
      have : (UInt8.ofNat n).toNat = n % 256 := rfl
      have h3 : (0 : UInt8).toNat = 0 := rfl
      omega
    · obtain ⟨x, l, h2, h3⟩ := leF_last f (n / 256) (by rw [Nat.pow_succ] at h; omega) (by omega)
      exact ⟨x, l ++ [UInt8.ofNat n], by rw [h2]; rfl, h3⟩
set_option maxRecDepth 10000 in
theorem cutN_cons (a : UInt8) (t : List UInt8) : cutN ⟨(a :: t).toArray⟩ =
    (if a.toNat < 128 then some (false, 0, 1) else
      if (if a.toNat < 192 then a.toNat - 128 else a.toNat - 192) ≤ 55 then
        if 1 + (if a.toNat < 192 then a.toNat - 128 else a.toNat - 192) ≤ t.length + 1 ∧ (decide (192 ≤ a.toNat) = true ∨ (if a.toNat < 192 then a.toNat - 128 else a.toNat - 192) ≠ 1 ∨ 128 ≤ ((a :: t).getD 1 0).toNat) then some (decide (192 ≤ a.toNat), 1, (if a.toNat < 192 then a.toNat - 128 else a.toNat - 192)) else none
      else match lenB ⟨(a :: t).toArray⟩ (1 + ((if a.toNat < 192 then a.toNat - 128 else a.toNat - 192) - 55)) with
        | some n => if 1 + ((if a.toNat < 192 then a.toNat - 128 else a.toNat - 192) - 55) + n ≤ t.length + 1 then some (decide (192 ≤ a.toNat), 1 + ((if a.toNat < 192 then a.toNat - 128 else a.toNat - 192) - 55), n) else none
        | none => none) := by
  have hsz : (⟨(a :: t).toArray⟩ : ByteArray).size = t.length + 1 := rfl
  have h0 : 0 < (⟨(a :: t).toArray⟩ : ByteArray).size := by rw [hsz]; omega
  have ha : (⟨(a :: t).toArray⟩ : ByteArray)[0]'h0 = a := rfl
  unfold cutN
  rw [dif_pos h0]
  simp only [ha, hsz]
  by_cases h1 : a.toNat < 128
  · rw [if_pos h1, if_pos h1]
  · rw [if_neg h1, if_neg h1]
    by_cases h2 : a.toNat < 192
    · simp only [if_pos h2, show decide (192 ≤ a.toNat) = false by simp; omega]; rfl
    · simp only [if_neg h2, show decide (192 ≤ a.toNat) = true by simp; omega]; rfl
def hb (l : Bool) : UInt8 := if l then 192 else 128
theorem u8_add (a b : UInt8) (h : a.toNat + b.toNat < 256) : (a + b).toNat = a.toNat + b.toNat := by rw [UInt8.toNat_add]; omega
theorem u8_of (n : Nat) (h : n < 256) : (UInt8.ofNat n).toNat = n := by show n % 256 = n; omega
theorem hb_nat (l : Bool) : (hb l).toNat = if l then 192 else 128 := by cases l <;> rfl
/-- What cut tells where a head, and what it tells of, stand. -/
theorem cut_head (l : Bool) (b y : List UInt8) (hn : b.length ≤ 1048576) (h1 : l = false → b.length = 1 → 128 ≤ (b.headD 0).toNat) :
    cutN ⟨((headB (hb l) b.length).data.toList ++ (b ++ y)).toArray⟩ = some (l, (headB (hb l) b.length).size, b.length) := by
  by_cases hs : b.length ≤ 55
  · have he : (headB (hb l) b.length) = ⟨#[hb l + UInt8.ofNat b.length]⟩ := by unfold headB; rw [if_pos hs]
    rw [he]
    have ha : (hb l + UInt8.ofNat b.length).toNat = (if l then 192 else 128) + b.length := by
      rw [u8_add _ _ (by rw [hb_nat, u8_of _ (by omega)]; split <;> omega), hb_nat, u8_of _ (by omega)]
    have hsz : (⟨#[hb l + UInt8.ofNat b.length]⟩ : ByteArray).size = 1 := rfl
    rw [hsz]
    obtain ⟨a, hadef⟩ : ∃ a, a = hb l + UInt8.ofNat b.length := ⟨_, rfl⟩
    rw [← hadef] at ha ⊢
    have hm : (if a.toNat < 192 then a.toNat - 128 else a.toNat - 192) = b.length := by
      rw [ha]; cases l <;> simp only [Bool.false_eq_true, if_false, if_true]
      · rw [if_pos (by omega)]; omega
      · rw [if_neg (by omega)]; omega
    have hl2 : decide (192 ≤ a.toNat) = l := by
      rw [ha]; cases l <;> simp <;> omega
    show cutN ⟨(a :: (b ++ y)).toArray⟩ = _
    rw [cutN_cons, hm, hl2, if_neg (by rw [ha]; split <;> omega), if_pos hs, if_pos]
    refine ⟨by rw [List.length_append]; omega, ?_⟩
    cases l with
    | true => exact .inl rfl
    | false =>
      refine .inr ?_
      by_cases h2 : b.length = 1
      · refine .inr ?_
        have := h1 rfl h2
        match b, h2 with
        | [x], _ => simpa using this
      · exact .inl h2
  · obtain ⟨d, hd⟩ : ∃ d, d = (leF 8 b.length).reverse := ⟨_, rfl⟩
    have hp : b.length < 256 ^ 8 := by omega
    have hk8 : d.length ≤ 8 := by rw [hd, List.length_reverse]; exact leF_len _ _
    have hbe : beN d = b.length := by rw [hd]; exact leF_beN _ _ hp
    obtain ⟨x, r, hxr, hx0⟩ := leF_last 8 b.length hp (by omega)
    rw [← hd] at hxr
    have hdig : digitsB b.length = ⟨d.toArray⟩ := by unfold digitsB; rw [hd]
    have hdl : (⟨d.toArray⟩ : ByteArray).size = d.length := rfl
    have he : (headB (hb l) b.length) = ⟨#[hb l + 55 + UInt8.ofNat d.length]⟩ ++ ⟨d.toArray⟩ := by unfold headB; rw [if_neg hs, hdig, hdl]
    have hel : (headB (hb l) b.length).data.toList = (hb l + 55 + UInt8.ofNat d.length) :: d := by
      rw [he, ByteArray.data_append]; simp
    have hes : (headB (hb l) b.length).size = 1 + d.length := by
      show (headB (hb l) b.length).data.toList.length = _; rw [hel, List.length_cons]; omega
    rw [hel, hes]
    have h55 : (hb l + 55 : UInt8).toNat = (if l then 192 else 128) + 55 := by cases l <;> rfl
    have ha : (hb l + 55 + UInt8.ofNat d.length).toNat = (if l then 192 else 128) + 55 + d.length := by
      rw [u8_add _ _ (by rw [h55, u8_of _ (by omega)]; split <;> omega), h55, u8_of _ (by omega)]
    obtain ⟨a, hadef⟩ : ∃ a, a = hb l + 55 + UInt8.ofNat d.length := ⟨_, rfl⟩
    rw [← hadef] at ha ⊢
    have hk1 : 1 ≤ d.length := by rw [hxr]; simp
    have hm : (if a.toNat < 192 then a.toNat - 128 else a.toNat - 192) = 55 + d.length := by
      rw [ha]; cases l <;> simp only [Bool.false_eq_true, if_false, if_true]
      · rw [if_pos (by omega)]; omega
      · rw [if_neg (by omega)]; omega
    have hl2 : decide (192 ≤ a.toNat) = l := by
      rw [ha]; cases l <;> simp <;> omega
    have hln : lenB ⟨(a :: (d ++ (b ++ y))).toArray⟩ (1 + d.length) = some b.length := by
      have e1 : ((⟨(a :: (d ++ (b ++ y))).toArray⟩ : ByteArray).data.toList.take (1 + d.length)).drop 1 = d := by
        show ((a :: (d ++ (b ++ y))).take (1 + d.length)).drop 1 = d
        rw [Nat.add_comm, List.take_succ_cons, List.drop_succ_cons, List.drop_zero, List.take_left]
      unfold lenB
      rw [if_neg, e1, hbe, if_pos ⟨by omega, hn⟩]
      rintro (h | h)
      · have : (⟨(a :: (d ++ (b ++ y))).toArray⟩ : ByteArray).size = (d ++ (b ++ y)).length + 1 := rfl
        rw [this, List.length_append] at h; omega
      · have : (⟨(a :: (d ++ (b ++ y))).toArray⟩ : ByteArray).data.toList.getD 1 0 = x := by rw [hxr]; rfl
        rw [this] at h; exact hx0 h
    show cutN ⟨(a :: (d ++ (b ++ y))).toArray⟩ = _
    rw [cutN_cons, hm, hl2, if_neg (by rw [ha]; split <;> omega), if_neg (by omega), show 55 + d.length - 55 = d.length by omega, hln]
    simp only [List.length_append]
    rw [if_pos (by omega)]
theorem ba_eq (s : ByteArray) : s = ⟨s.data.toList.toArray⟩ := rfl
theorem cut_head' (l : Bool) (b y : ByteArray) (hn : b.size ≤ 1048576) (h1 : l = false → b.size = 1 → 128 ≤ (b.data.toList.headD 0).toNat) :
    cutN (headB (hb l) b.size ++ b ++ y) = some (l, (headB (hb l) b.size).size, b.size) := by
  have h := cut_head l b.data.toList y.data.toList hn h1
  rw [ba_eq (headB (hb l) b.size ++ b ++ y)]
  simp only [ByteArray.data_append, Array.toList_append, List.append_assoc]
  exact h
theorem extract_mid (h b y : ByteArray) : (h ++ b ++ y).extract h.size (h.size + b.size) = b := by
  apply ByteArray.ext; apply Array.ext'
  rw [ByteArray.data_extract, Array.toList_extract, ByteArray.data_append, ByteArray.data_append, Array.toList_append, Array.toList_append, List.extract_eq_take_drop,
    show h.size + b.size - h.size = b.data.toList.length by show _ = b.size; omega, List.append_assoc, show h.size = h.data.toList.length from rfl, List.drop_left, List.take_left]
/-- What is in a text's item, whatever is behind it. -/
theorem cut_textB (b y : ByteArray) (hn : b.size ≤ 1048576) : ∃ o, cutN (textB b ++ y) = some (false, o, b.size) ∧ o + b.size = (textB b).size ∧ (textB b ++ y).extract o (o + b.size) = b := by
  by_cases h : b.size = 1 ∧ b.data.toList.headD 255 < 128
  · obtain ⟨h1, h2⟩ := h
    obtain ⟨⟨lb⟩⟩ := b
    have h1' : lb.length = 1 := h1
    match lb, h1', h2 with
    | [x], _, h2 =>
      have h2' : x.toNat < 128 := UInt8.lt_iff_toNat_lt.1 h2
      have ht : textB ⟨#[x]⟩ = ⟨#[x]⟩ := by unfold textB; rw [if_pos ⟨rfl, h2⟩]
      refine ⟨0, ?_, ?_, ?_⟩
      · rw [show (⟨[x].toArray⟩ : ByteArray) = ⟨#[x]⟩ from rfl, ht, ba_eq (_ ++ y), ByteArray.data_append, Array.toList_append]
        show cutN ⟨(x :: y.data.toList).toArray⟩ = _
        rw [cutN_cons, if_pos h2']; rfl
      · rw [show (⟨[x].toArray⟩ : ByteArray) = ⟨#[x]⟩ from rfl, ht]; rfl
      · rw [show (⟨[x].toArray⟩ : ByteArray) = ⟨#[x]⟩ from rfl, ht, Nat.zero_add]; exact ext_cat_l _ _
  · have ht : textB b = headB (hb false) b.size ++ b := by unfold textB; rw [if_neg h]; rfl
    rw [ht]
    refine ⟨_, cut_head' false b y hn (fun _ h1 => ?_), by rw [ByteArray.size_append], extract_mid _ _ _⟩
    obtain ⟨⟨lb⟩⟩ := b
    have h1' : lb.length = 1 := h1
    match lb, h1', h with
    | [x], _, h =>
      have h3 : ¬ x < 128 := fun hx => h ⟨rfl, hx⟩
      have h4 : ¬ x.toNat < (128 : UInt8).toNat := fun hx => h3 (UInt8.lt_iff_toNat_lt.2 hx)
      have h5 : (128 : UInt8).toNat = 128 := rfl
      show 128 ≤ x.toNat
      omega
theorem cut_listB (xs : List ByteArray) (y : ByteArray) (hn : (catB xs).size ≤ 1048576) : ∃ o, cutN (listB xs ++ y) = some (true, o, (catB xs).size) ∧ o + (catB xs).size = (listB xs).size ∧ (listB xs ++ y).extract o (o + (catB xs).size) = catB xs := by
  have ht : listB xs = headB (hb true) (catB xs).size ++ catB xs := rfl
  rw [ht]
  exact ⟨_, cut_head' true _ y hn (fun h => by cases h), by rw [ByteArray.size_append], extract_mid _ _ _⟩
theorem isItem_text (b : ByteArray) (hn : b.size ≤ 1048576) : IsItem (textB b) := fun y _ => let ⟨o, h1, h2, _⟩ := cut_textB b y hn; ⟨_, h1, h2⟩
theorem isItem_list (xs : List ByteArray) (hn : (catB xs).size ≤ 1048576) : IsItem (listB xs) := fun y _ => let ⟨o, h1, h2, _⟩ := cut_listB xs y hn; ⟨_, h1, h2⟩
theorem app_nil (x : ByteArray) : x ++ ⟨#[]⟩ = x := ByteArray.append_empty
/-- .. where nothing is behind it. -/
theorem cut_text0 (b : ByteArray) (hn : b.size ≤ 1048576) : ∃ o, cutN (textB b) = some (false, o, b.size) ∧ o + b.size = (textB b).size ∧ (textB b).extract o (o + b.size) = b := by
  have := cut_textB b ⟨#[]⟩ hn; rwa [app_nil] at this
theorem cut_list0 (xs : List ByteArray) (hn : (catB xs).size ≤ 1048576) : ∃ o, cutN (listB xs) = some (true, o, (catB xs).size) ∧ o + (catB xs).size = (listB xs).size ∧ (listB xs).extract o (o + (catB xs).size) = catB xs := by
  have := cut_listB xs ⟨#[]⟩ hn; rwa [app_nil] at this
theorem plain_text (b : ByteArray) (hn : b.size ≤ 1048576) : ∃ r, cutN (textB b) = some r ∧ plainB (textB b) r = some b := by
  obtain ⟨o, h1, h2, h3⟩ := cut_text0 b hn
  exact ⟨_, h1, by unfold plainB; rw [if_pos ⟨rfl, h2⟩, h3]⟩
theorem hash_text (b : ByteArray) (hn : b.size = 32) : ∃ r, cutN (textB b) = some r ∧ hashB (textB b) r = some b := by
  obtain ⟨r, h1, h2⟩ := plain_text b (by omega)
  exact ⟨r, h1, by unfold hashB; rw [h2]; simp [Option.filter, hn]⟩
theorem hash_list (xs : List ByteArray) (hn : (catB xs).size ≤ 1048576) : ∃ r, cutN (listB xs) = some r ∧ hashB (listB xs) r = none := by
  obtain ⟨o, h1, h2, h3⟩ := cut_list0 xs hn
  exact ⟨_, h1, by unfold hashB plainB; rw [if_neg (by simp)]; rfl⟩
end
end Go.Proofs.YtneojlgbcaejmaaGreatDoor
/- node: leaf, none, ext, may, branch. -/
namespace Go.Proofs.YtneojlgbcaejmaaGreatDoor
section
open Go Go.RowKit
set_option linter.unusedSimpArgs false
set_option linter.unusedVariables false
attribute [local go_sem] Oper.semAt_some
/-- A load whose answer is known. -/
theorem wpList_load_known {P : Program} {w : World} {ops : Array Oper} {rest : List Oper} {o : Oper} {a : Act} {Q : Exit → Act → World → Prop} (t : TypeId) (x : Operand) (ho : o.op = .load t x) (hw : Region.wanted o (yielded ops a.tmps) = true) (v : Value) (p : Addr) (hx : a.eval x = .pointer (some p))
    (hr : (Instr.loadAt t (.pointer (some p))).run P w = .ok v w) (h : wpList P ops Q rest (a.put o.dst v) w) : wpList P ops Q (o :: rest) a w := by
  unfold wpList
  rw [if_pos hw]
  refine .inl (wp_value (v := v) (w' := w) ?_ h)
  simp only [execOp, ho, hx, Sem.run_bind, hr, Result.andThen, Sem.run_pure]
theorem run_load_box (W : World) (n : NodeT) (hr : n.refs.length = 16) : (Instr.loadAt 116 (.pointer (some ⟨W.heap.size, 0, none⟩))).run Tryz.prog (W.alloc (.cells n.cells.toArray 116)) = .ok n.V (W.alloc (.cells n.cells.toArray 116)) :=
  run_load_node _ _ n hr (Blk.new W _)
theorem Tryz.isNode : isStruct (Tryz.prog.underlying 76) = true := by kernel_rfl
theorem Tryz.szNode : (Tryz.prog.info? 76).map (·.size) = some 19 := by kernel_rfl
set_option maxRecDepth 100000 in
theorem run_load_api (W : World) (b : Nat) (n : NodeT) (hr : n.refs.length = 16) (hB : Blk W b (.cells n.cells.toArray 76)) : (Instr.loadAt 76 (.pointer (some ⟨b, 0, none⟩))).run Tryz.prog W = .ok n.V W := by
  obtain ⟨fs, hu⟩ := und_struct Tryz.isNode
  exact run_load_agg hu (by rw [n.cells_len hr]; exact Tryz.szNode) (fun j v hv => by rw [add_none]; exact hB.cellL hv)
set_option maxRecDepth 100000 in
set_option maxHeartbeats 1000000 in
theorem leaf_c (w : World) (n : NodeT) (hr : n.refs.length = 16) (hp : n.pathOk 0 = true) (h0 : 0 < n.value.size) (h8 : n.value.size ≤ 80) (hb : n.behindN = 0) : Calls Tryz.prog 85 #[n.V] w fun e w' => e = .returned (.bool true) ∧ Ext w w' := by
  have hps : n.path.size ≤ 1000000 := by
    have : n.pathOk 0 = true := hp
    simp only [NodeT.pathOk, Bool.and_eq_true, decide_eq_true_eq] at this; omega
  have hld := run_load_box w n hr
  have e2 : n.cells[2]? = some (.string n.value) := rfl
  have hne := ne_empty h0
  have c1 : (n.value.size : Int) ≤ 80 := by omega
  have HP := Lib.hid hp
  have HB := Lib.hid hb
  have HH := Lib.hid h0
  clear hp hb h0
  unfold NodeT.V at hld ⊢
  go_enter Tryz.func85, Tryz.ntmps85
  go_wp2_with (refine wpList_load_known 116 (.tmp 1) rfl rfl _ _ rfl hld ?_)
  refine (npath_c _ n hr 0 hps).mono ?_
  rintro e w1 ⟨rfl, hE⟩
  rw [HP.out]
  have B1 := (Blk.new w (.cells n.cells.toArray 116)).keeps hE (fun h => h)
  have q2 := B1.cellL e2
  have hld1 := run_load_node w1 _ n hr B1
  have HE1 := Lib.hid (((ExtR w).alloc _).trans hE)
  unfold NodeT.V at hld1
  clear hld hE B1
  go_wp2_with (refine wpList_load_known 116 (.tmp 1) rfl rfl _ _ rfl hld1 ?_)
  refine (behind_c _ n hr).mono ?_
  rintro e w2 ⟨rfl, hE⟩
  rw [HB.out]
  have HE2 := Lib.hid (HE1.out.trans hE)
  clear hld1 hE q2
  go_wp2_with fail
  go_ret
  exact ⟨rfl, HE2.out⟩
def emptyN : NodeT := ⟨0, ⟨#[]⟩, ⟨#[]⟩, List.replicate 16 ⟨#[]⟩⟩
set_option maxRecDepth 100000 in
set_option maxHeartbeats 1000000 in
theorem none_c (w : World) : Calls Tryz.prog 84 #[emptyN.V] w fun e w' => e = .returned (.bool true) ∧ Ext w w' := by
  have hld := run_load_box w emptyN rfl
  have he : emptyN.cells.toArray = #[.int .i64 0, .string ⟨#[]⟩, .string ⟨#[]⟩, .string ⟨#[]⟩, .string ⟨#[]⟩, .string ⟨#[]⟩, .string ⟨#[]⟩, .string ⟨#[]⟩, .string ⟨#[]⟩, .string ⟨#[]⟩, .string ⟨#[]⟩, .string ⟨#[]⟩, .string ⟨#[]⟩, .string ⟨#[]⟩, .string ⟨#[]⟩, .string ⟨#[]⟩, .string ⟨#[]⟩, .string ⟨#[]⟩, .string ⟨#[]⟩] := rfl
  unfold NodeT.V at hld ⊢
  rw [he] at hld ⊢
  have hq : ∀ w, (binOp .eql 116 (.agg #[.int .i64 0, .string ⟨#[]⟩, .string ⟨#[]⟩, .string ⟨#[]⟩, .string ⟨#[]⟩, .string ⟨#[]⟩, .string ⟨#[]⟩, .string ⟨#[]⟩, .string ⟨#[]⟩, .string ⟨#[]⟩, .string ⟨#[]⟩, .string ⟨#[]⟩, .string ⟨#[]⟩, .string ⟨#[]⟩, .string ⟨#[]⟩, .string ⟨#[]⟩, .string ⟨#[]⟩, .string ⟨#[]⟩, .string ⟨#[]⟩]) (.agg #[.int .i64 0, .string ⟨#[]⟩, .string ⟨#[]⟩, .string ⟨#[]⟩, .string ⟨#[]⟩, .string ⟨#[]⟩, .string ⟨#[]⟩, .string ⟨#[]⟩, .string ⟨#[]⟩, .string ⟨#[]⟩, .string ⟨#[]⟩, .string ⟨#[]⟩, .string ⟨#[]⟩, .string ⟨#[]⟩, .string ⟨#[]⟩, .string ⟨#[]⟩, .string ⟨#[]⟩, .string ⟨#[]⟩, .string ⟨#[]⟩])).run Tryz.prog w = .ok (.bool true) w := fun w => by kernel_rfl
  go_enter Tryz.func84, Tryz.ntmps84
  go_wp2_with (refine wpList_load_known 116 (.tmp 1) rfl rfl _ _ rfl hld ?_)
  go_ret
  exact ⟨rfl, (ExtR w).alloc _⟩
end
end Go.Proofs.YtneojlgbcaejmaaGreatDoor
