/- Parts of the proof, one behind the other: CurJ, CurK, StoreFb. Each is under no condition but those that it states. -/
import Derived.Test.YtneojlgbcaejmaaGreatDoorBa34
import Derived.Test.YtneojlgbcaejmaaGreatDoorBa32
/- cursor: Count. -/
namespace Go.Proofs.YtneojlgbcaejmaaGreatDoor
section
open Go Go.RowKit
set_option linter.unusedSimpArgs false
set_option linter.unusedVariables false
attribute [local go_sem] Oper.semAt_some
theorem Tryz.enterEachCur : ∀ args w, (callFunc 38 args).run Tryz.prog w = .ok (.enter 38 args) w := fun _ _ => by kernel_rfl
theorem fromL_nil (l : List Pair) : fromL ⟨#[]⟩ l = l := by
  unfold fromL
  rw [List.filter_eq_self]
  intro p _
  cases h : lessB p.1 ⟨#[]⟩ with
  | false => rfl
  | true => exact absurd ((lessB_iff _ _).1 h) (not_lt_nil _)
def CtC (t : Nat) (k : Nat) (D : BSet) (W : World) : Prop := (∀ b, D b ↔ b = t) ∧ Blk W t (.cells #[.int .i64 (k : Int)] 3)
theorem CtC.supp (t k : Nat) : Supp (CtC t k) := ⟨fun D W h b hb => by rw [(h.1 b).1 hb]; exact h.2.lt, fun D W W' h hz hb => ⟨h.1, (hb t ((h.1 t).2 rfl)).trans h.2⟩⟩
theorem no_supp : Supp (fun _ _ => False) := ⟨fun _ _ h => h.elim, fun _ _ _ h => h.elim⟩
set_option maxRecDepth 100000 in
set_option maxHeartbeats 8000000 in
theorem count_c (W : World) (s bm : Nat) (room : Int) (S : List Nd5) (l : List Pair) (hM : HasM S l) (hs : StoreAt W s bm room S) :
    Calls Tryz.prog 17 #[.pointer (some ⟨s, 0, none⟩), .string (shaB (trieT l).text)] W fun e w' => e = .returned (.tuple #[.int .i64 l.length, .int .i64 0]) ∧ Ext W w' := by
  have HSK := Lib.hid (seek_c W s bm room S ⟨#[]⟩ l (by simp [ByteArray.size]) hM hs)
  have HS := Lib.hid hs
  have hl40 := (check_ok hM.ok).len
  have HM := Lib.hid hM
  obtain ⟨k, hk⟩ : ∃ k, k = shaB (trieT l).text := ⟨_, rfl⟩
  rw [← hk] at HSK ⊢
  clear hM hs hk
  rw [← callsIn_wide (n := 0)]
  refine callsIn_of_wp_marks Tryz.func17 rfl trivial ?_ rfl
  simp only [Tryz.ntmps17, List.size_toArray, List.length_cons, List.length_nil, Nat.reduceAdd, Nat.reduceSub, Array.replicate_succ, Array.replicate_zero, List.push_toArray, List.append_toArray, List.nil_append, List.cons_append]
  gi_wp2_with fail
  refine ⟨trivial, rfl, CallsIn.mono (callsIn_wide.2 HSK.out) ?_⟩
  rintro e w1 ⟨c, v, rfl, hc, hv, hX, hC⟩
  rw [rest_from, fromL_nil] at hC
  have HCC := Lib.hid (And.intro hc hv)
  have HX := Lib.hid hX
  have HC := Lib.hid hC
  clear hc hv hX hC
  gi_wp2_with fail
  obtain ⟨w2, hw2⟩ : ∃ w2, w2 = w1.alloc (.cells #[.int .i64 0] 3) := ⟨_, rfl⟩
  have hX2 : Ext w1 w2 := by rw [hw2]; exact (ExtR w1).alloc _
  have hB2 : Blk w2 w1.heap.size (.cells #[.int .i64 ((0 : Nat) : Int)] 3) := by rw [hw2]; exact Blk.new w1 _
  have hz2 : w2.heap.size = w1.heap.size + 1 := by rw [hw2]; simp
  rw [← hw2]
  have hcl := HC.out.lt
  have hS0 : EaS W S c s (pathB ⟨#[]⟩) l v (fun b => b < W.heap.size ∨ b = c ∨ v.ownBlock = some b) w2 :=
    ⟨fun b => Iff.rfl, by have := HX.out.size; omega, fun b hb => (hX2.block b (by have := HX.out.size; omega) (fun h => h)).trans (HX.out.block b hb (fun h => h)), HC.out.ext hX2⟩
  have HX2 := Lib.hid (HX.out.trans hX2)
  have HZ := Lib.hid (And.intro hz2 HX.out.size)
  clear hw2 hX2 hz2
  refine wp_rangeP (N := l.length) (gf := 38) (pre := #[.pointer (some ⟨c, 0, none⟩)]) (lb := #[]) rfl Tryz.enterEachCur
    (cEach_it W c s bm room S HS.out (pathB ⟨#[]⟩) l v (by have := path_size ⟨#[]⟩; rw [this]; decide) (by omega) HCC.out.1 HCC.out.2)
    (EaS.supp W S c s (pathB ⟨#[]⟩) l v) (fun k => rfl) (CtC w1.heap.size) (fun _ _ _ _ => False) (CtC.supp w1.heap.size) (fun _ _ => no_supp)
    (fun b => b = w1.heap.size) (fun b => b < W.heap.size ∨ b = c ∨ v.ownBlock = some b) ⟨fun b => Iff.rfl, hB2⟩ hS0
    (fun b hb ho => by
      have hb : b = w1.heap.size := hb
      subst hb
      rcases ho with h | h | h
      · have := HZ.out.2; omega
      · omega
      · have := hcl.2 _ h; omega)
    (fun j => { tmps := #[.pointer (some ⟨s, 0, none⟩), .string k, undef, undef, .int .i64 0, .int .i64 0, .pointer (some ⟨c, 0, none⟩), .int .i64 0, .pointer (some ⟨w1.heap.size, 0, none⟩),
          .tuple #[.pointer (some ⟨c, 0, none⟩), .int .i64 0], .pointer (some ⟨s, 0, none⟩), .string k, .tuple #[.pointer (some ⟨c, 0, none⟩), .int .i64 0],
          .pointer (some ⟨c, 0, none⟩), .int .i64 0, .int .i64 0, .bool false, undef, .pointer (some ⟨c, 0, none⟩),
          .func (.func 38) #[.pointer (some ⟨c, 0, none⟩)] #[], .string (atE l j).1, .string (atE l j).2, undef, undef, undef], defers := [] }) ?hassign ?hbody ?hdone ?hstop EaE.supp
  case hassign =>
    intro y j W9 K hK
    unfold eaV
    rw [fold2]
    gi_wp2
    exact hK
  case hbody =>
    intro y j D W9 hj hc hkp
    obtain ⟨hD, hN⟩ := hc
    have n0 := hN.cell (i := 0) (v := .int .i64 (j : Int)) (by rfl)
    have nf : W9.frozen? ⟨w1.heap.size, 0, none⟩ = false := hN.frozen
    have HN := Lib.hid hN
    have HD := Lib.hid hD
    have hj2 : (j : Int) ≤ 100 := by omega
    have hj3 : (j : Int) + 1 = ((j + 1 : Nat) : Int) := by omega
    have HJ := Lib.hid hj3
    clear hN hD hkp hj3
    gi_wp2_with fail
    refine ⟨D, (Keeps.oneSet W9 ⟨w1.heap.size, 0, none⟩ (.int .i64 ((j : Int) + 1))).mono (fun b _ e => (HD.out b).2 e), fun b hb => .inl hb, HD.out, ?_⟩
    have := HN.out.set_same (i := 0) (.int .i64 ((j : Int) + 1))
    rw [← HJ.out]; exact this
  case hdone =>
    intro D O W9 hkp hc hse hdis hDn hOn hbd h1 h2
    obtain ⟨hD, hN⟩ := hc
    have n0 := hN.cell (i := 0) (v := .int .i64 (l.length : Int)) (by rfl)
    have HBD := Lib.hid hbd
    have HF := Lib.hid (show Ext W W9 from HX2.out.trans' hkp (fun b hb e => by
      rcases e with e | e | e
      · have e : b = w1.heap.size := e; have := HZ.out.2; omega
      · have := HCC.out.1; omega
      · have := HCC.out.2 b e; omega))
    clear hD hN hkp hse hdis hDn hOn hbd h1 h2 hS0 hB2
    gi_wp2
    refine ⟨by simp, .inl ⟨_, _, rfl, run_takeDeferred HBD.out, ?_⟩⟩
    exact ⟨_, results_tmp2 rfl _ _ _, rfl, HF.out.trans' (Keeps.onePut W9 w2.heap.size _) (fun b hb e => by have := HX2.out.size; have e : b = w2.heap.size := e; omega)⟩
  case hstop => exact fun _ _ _ _ _ _ _ _ h => h.elim
end
end Go.Proofs.YtneojlgbcaejmaaGreatDoor
/- cursor: Range. -/
namespace Go.Proofs.YtneojlgbcaejmaaGreatDoor
section
open Go Go.RowKit
set_option linter.unusedSimpArgs false
set_option linter.unusedVariables false
attribute [local go_sem] Oper.semAt_some
/-- Those up to a key. -/
def uptoL (to : ByteArray) (l : List Pair) : List Pair := l.filter fun p => !lessB to p.1
theorem uptoL_stop {to : ByteArray} : ∀ {E : List Pair} {k : Nat}, E.Pairwise (fun p q => Lt p.l q.l) → (∀ q ∈ E.take k, lessB to q.1 = false) → (∀ q, E[k]? = some q → lessB to q.1 = true) → uptoL to E = E.take k := by
  intro E k hr h1 h2
  unfold uptoL
  have e : E = E.take k ++ E.drop k := (List.take_append_drop k E).symm
  conv => lhs; rw [e]
  rw [List.filter_append]
  have ha : (E.take k).filter (fun p => !lessB to p.1) = E.take k := by
    rw [List.filter_eq_self]; intro q hq; simp [h1 q hq]
  have hb : (E.drop k).filter (fun p => !lessB to p.1) = [] := by
    rw [List.filter_eq_nil_iff]
    intro q hq
    obtain ⟨i, hi⟩ := List.getElem?_of_mem hq
    rw [List.getElem?_drop] at hi
    have hk : k < E.length := by have := (List.getElem?_eq_some_iff.1 hi).1; omega
    have h3 := h2 _ (List.getElem?_eq_getElem hk)
    by_cases h0 : i = 0
    · subst h0
      rw [Nat.add_zero] at hi
      rw [h2 q hi]; simp
    · have hlt := pair_get hr (show k < k + i by omega) (List.getElem?_eq_getElem hk) hi
      have : lessB to q.1 = true := (lessB_iff _ _).2 (lt_trans' _ _ _ ((lessB_iff _ _).1 h3) hlt)
      simp [this]
  rw [ha, hb, List.append_nil]
theorem uptoL_more {to : ByteArray} {E : List Pair} {k : Nat} {q : Pair} (h1 : ∀ q ∈ E.take k, lessB to q.1 = false) (hq : E[k]? = some q) (h2 : lessB to q.1 = false) : (uptoL to E).take k = E.take k ∧ k < (uptoL to E).length := by
  unfold uptoL
  have hk := (List.getElem?_eq_some_iff.1 hq).1
  have e : E = E.take k ++ (q :: E.drop (k + 1)) := by
    obtain ⟨h, rfl⟩ := List.getElem?_eq_some_iff.1 hq
    rw [← List.drop_eq_getElem_cons h, List.take_append_drop]
  have ha : (E.take k).filter (fun p => !lessB to p.1) = E.take k := by
    rw [List.filter_eq_self]; intro q hq; simp [h1 q hq]
  have hl : (E.take k).length = k := by rw [List.length_take]; omega
  have ef : E.filter (fun p => !lessB to p.1) = E.take k ++ (q :: (E.drop (k + 1)).filter (fun p => !lessB to p.1)) := by
    conv => lhs; rw [e]
    rw [List.filter_append, ha, List.filter_cons, h2]; rfl
  rw [ef]
  refine ⟨?_, ?_⟩
  · conv => lhs; arg 1; rw [← hl]
    exact List.take_left
  · rw [List.length_append, hl, List.length_cons]; omega
theorem cmp3 (a b : ByteArray) : (lessB b a = true → Op.bytesLess a.toList b.toList = false ∧ (a.toList == b.toList) = false) ∧ (lessB b a = false → ∃ b1 b2, Op.bytesLess a.toList b.toList = b1 ∧ (a.toList == b.toList) = b2 ∧ (!b1 && !b2) = false) := by
  rw [ByteArray.toList_eq, ByteArray.toList_eq]
  constructor
  · intro h
    rw [lessB_iff] at h
    refine ⟨?_, ?_⟩
    · rw [Bool.eq_false_iff]; exact fun h2 => lt_irrefl _ (lt_trans' _ _ _ h h2)
    · rw [beq_eq_false_iff_ne]; intro e; rw [e] at h; exact lt_irrefl _ h
  · intro h
    refine ⟨_, _, rfl, rfl, ?_⟩
    rcases lt_total a.data.toList b.data.toList with h3 | h3 | h3
    · rw [show Op.bytesLess a.data.toList b.data.toList = true from h3]; rfl
    · rw [h3]; simp
    · rw [(lessB_iff _ _).2 h3] at h; cases h
structure RgA (t : Nat) (to : ByteArray) (limit : Int) (W : World) : Prop where
  b0 : Blk W t (.cells #[.string to] 9)
  b1 : Blk W (t + 1) (.cells #[.int .i64 limit] 3)
  b2 : Blk W (t + 2) (.cells #[.slice none 0 0] 22)
  b3 : Blk W (t + 3) (.cells #[.bool false] 4)
  b4 : Blk W (t + 4) (.cells #[.int .i64 0] 27)
theorem RgA.keeps {t : Nat} {to : ByteArray} {limit : Int} {W W' : World} {F : BSet} (h : RgA t to limit W) (k : Keeps F W W') (hF : ∀ b, t ≤ b → b ≤ t + 4 → ¬ F b) : RgA t to limit W' :=
  ⟨h.b0.keeps k (hF _ (by omega) (by omega)), h.b1.keeps k (hF _ (by omega) (by omega)), h.b2.keeps k (hF _ (by omega) (by omega)), h.b3.keeps k (hF _ (by omega) (by omega)), h.b4.keeps k (hF _ (by omega) (by omega))⟩
theorem RgA.new (W : World) (to : ByteArray) (limit : Int) : RgA W.heap.size to limit (((((W.alloc (.cells #[.string to] 9)).alloc (.cells #[.int .i64 limit] 3)).alloc (.cells #[.slice none 0 0] 22)).alloc (.cells #[.bool false] 4)).alloc (.cells #[.int .i64 0] 27)) := by
  refine ⟨?_, ?_, ?_, ?_, ?_⟩
  · exact ((((Blk.new W _).alloc _).alloc _).alloc _).alloc _
  · have := (((Blk.new (W.alloc (.cells #[.string to] 9)) (.cells #[.int .i64 limit] 3)).alloc (.cells #[.slice none 0 0] 22)).alloc (.cells #[.bool false] 4)).alloc (.cells #[.int .i64 0] 27)
    rwa [World.size_alloc] at this
  · have := ((Blk.new ((W.alloc (.cells #[.string to] 9)).alloc (.cells #[.int .i64 limit] 3)) (.cells #[.slice none 0 0] 22)).alloc (.cells #[.bool false] 4)).alloc (.cells #[.int .i64 0] 27)
    rwa [World.size_alloc, World.size_alloc] at this
  · have := (Blk.new (((W.alloc (.cells #[.string to] 9)).alloc (.cells #[.int .i64 limit] 3)).alloc (.cells #[.slice none 0 0] 22)) (.cells #[.bool false] 4)).alloc (.cells #[.int .i64 0] 27)
    rwa [World.size_alloc, World.size_alloc, World.size_alloc] at this
  · have := Blk.new ((((W.alloc (.cells #[.string to] 9)).alloc (.cells #[.int .i64 limit] 3)).alloc (.cells #[.slice none 0 0] 22)).alloc (.cells #[.bool false] 4)) (.cells #[.int .i64 0] 27)
    rwa [World.size_alloc, World.size_alloc, World.size_alloc, World.size_alloc] at this
/-- A range of E. -/
def RangeP (E : List Pair) (to : ByteArray) (limit : Int) (W : World) (e : Ending) (w' : World) : Prop :=
  Ext W w' ∧ if 1 ≤ limit ∧ limit ≤ 8 then ∃ lv, e = .returned (.tuple #[lv, .bool (decide (limit.toNat < (uptoL to E).length)), .int .i64 0]) ∧ NRow W w' lv ((uptoL to E).take limit.toNat)
    else e = .returned (.tuple #[.slice none 0 0, .bool false, .int .i64 1])
theorem own_heap {W W' : World} {B : Nat} {T : TypeId} {sz : Nat} {v : Value} {n : Nat} {xs : List Value} (h : W.ownsRow B T sz v n xs) (hb : ∀ b, v.ownBlock = some b → W'.heap[b]? = W.heap[b]?) : W'.ownsRow B T sz v n xs := by
  obtain ⟨h1, h2 | ⟨g, cap, cur, h2, h3, h4, h5⟩⟩ := h
  · exact ⟨h1, .inl h2⟩
  · exact ⟨h1, .inr ⟨g, cap, cur, h2, h3, (hb g (by rw [h2]; rfl)).trans h4, h5⟩⟩
/-- Range's variables: the key, the limit, what is answered, the row. -/
structure RgG (t5 : Nat) (t : Nat) (to : ByteArray) (n : Nat) (E : List Pair) (k : Nat) (r2 : Value) (r3 : Bool) (lv : Value) (D : BSet) (W : World) : Prop where
  is : ∀ b, D b ↔ (t ≤ b ∧ b ≤ t + 4) ∨ b = t5 ∨ lv.ownBlock = some b
  b0 : Blk W t (.cells #[.string to] 9)
  b1 : Blk W (t + 1) (.cells #[.int .i64 (n : Int)] 3)
  b2 : Blk W (t + 2) (.cells #[r2] 22)
  b3 : Blk W (t + 3) (.cells #[.bool r3] 4)
  b4 : Blk W (t + 4) (.cells #[.int .i64 0] 27)
  b5 : Blk W t5 (.cells #[lv] 22)
  row : W.ownsRow 0 45 2 lv k (cellsP (E.take k))
  far : ∀ b, lv.ownBlock = some b → t5 < b
  le : k ≤ n
  low : ∀ q ∈ E.take k, lessB to q.1 = false
theorem RgG.supp (t5 t : Nat) (to : ByteArray) (n : Nat) (E : List Pair) (k : Nat) (r2 : Value) (r3 : Bool) (lv : Value) : Supp (RgG t5 t to n E k r2 r3 lv) := by
  refine ⟨fun D W h b hb => ?_, fun D W W' h hz hb => ?_⟩
  · rcases (h.is b).1 hb with e | e | e
    · have := h.b4.lt; omega
    · have := h.b5.lt; omega
    · exact own_lt h.row e
  · have hD : ∀ b, t ≤ b → b ≤ t + 4 → W'.heap[b]? = W.heap[b]? := fun b h1 h2 => hb b ((h.is b).2 (.inl ⟨h1, h2⟩))
    exact ⟨h.is, (hD _ (by omega) (by omega)).trans h.b0, (hD _ (by omega) (by omega)).trans h.b1, (hD _ (by omega) (by omega)).trans h.b2, (hD _ (by omega) (by omega)).trans h.b3, (hD _ (by omega) (by omega)).trans h.b4,
      (hb t5 ((h.is t5).2 (.inr (.inl rfl)))).trans h.b5, own_heap h.row fun b e => hb b ((h.is b).2 (.inr (.inr e))), h.far, h.le, h.low⟩
def RgC (t5 t : Nat) (to : ByteArray) (n : Nat) (E : List Pair) (k : Nat) (D : BSet) (W : World) : Prop := ∃ lv, RgG t5 t to n E k (.slice none 0 0) false lv D W
theorem RgC.supp (t5 t : Nat) (to : ByteArray) (n : Nat) (E : List Pair) (k : Nat) : Supp (RgC t5 t to n E k) :=
  ⟨fun D W ⟨lv, h⟩ b hb => (RgG.supp t5 t to n E k _ _ lv).lt D W h b hb, fun D W W' ⟨lv, h⟩ hz hb => ⟨lv, (RgG.supp t5 t to n E k _ _ lv).st D W W' h hz hb⟩⟩
/-- How the loop is left: at a key that is too large, or with one more. -/
def RgJ (t5 t : Nat) (to : ByteArray) (n : Nat) (E : List Pair) (c : Code) (k1 : Nat) (D : BSet) (W : World) : Prop :=
  (c = .exit 0 ∧ ∃ k lv, RgG t5 t to n E k (.slice none 0 0) false lv D W ∧ k < E.length ∧ ∀ q, E[k]? = some q → lessB to q.1 = true) ∨
  (c = .ret ∧ ∃ lv q, RgG t5 t to n E n lv true lv D W ∧ E[n]? = some q ∧ lessB to q.1 = false)
theorem RgJ.supp (t5 t : Nat) (to : ByteArray) (n : Nat) (E : List Pair) (c : Code) (k1 : Nat) : Supp (RgJ t5 t to n E c k1) := by
  refine ⟨fun D W h b hb => ?_, fun D W W' h hz hb => ?_⟩
  · rcases h with ⟨_, k, lv, h, _⟩ | ⟨_, lv, q, h, _⟩
    · exact (RgG.supp t5 t to n E k _ _ lv).lt D W h b hb
    · exact (RgG.supp t5 t to n E n _ _ lv).lt D W h b hb
  · rcases h with ⟨h1, k, lv, h, h2⟩ | ⟨h1, lv, q, h, h2⟩
    · exact .inl ⟨h1, k, lv, (RgG.supp t5 t to n E k _ _ lv).st D W W' h hz hb, h2⟩
    · exact .inr ⟨h1, lv, q, (RgG.supp t5 t to n E n _ _ lv).st D W W' h hz hb, h2⟩
theorem results_cell3 {P : Program} {fn : Func} {t u x : Tmp} {ty ty2 ty3 : TypeId} (h : fn.results = #[.cell t ty, .cell u ty2, .cell x ty3]) {tmps : Array Value} {a b c : Addr} (ha : tmps.getD t undef = .pointer (some a)) (hb : tmps.getD u undef = .pointer (some b)) (hc : tmps.getD x undef = .pointer (some c)) {w : World} {v1 v2 v3 : Value}
    (l1 : (loadVar ty a).run P w = .ok v1 w) (l2 : (loadVar ty2 b).run P w = .ok v2 w) (l3 : (loadVar ty3 c).run P w = .ok v3 w) : (results fn tmps).run P w = .ok (.tuple #[v1, v2, v3]) w := by
  have ha' : tmps[t]?.getD undef = .pointer (some a) := by simpa using ha
  have hb' : tmps[u]?.getD undef = .pointer (some b) := by simpa using hb
  have hc' : tmps[x]?.getD undef = .pointer (some c) := by simpa using hc
  simp [results, h, ha', hb', hc', asAddr, Sem.run_bind, Result.andThen, l1, l2, l3]
theorem loadVar_one {P : Program} {W : World} {p : Addr} {v : Value} {t : TypeId} {d : TypeDesc} (hu : P.underlying t = some d) (hd : (match d with | .struct _ | .array _ _ => true | _ => false) = false) (h : W.cell? p = some v) : (loadVar t p).run P W = .ok v W := by
  have := run_load_plain hu hd h
  simpa [Instr.loadAt, Instr.sureAddr, Sem.run_bind, Result.andThen] using this
theorem rg_set {t : Nat} {w1 : World} {x2 x3 x4 : Value} (y2 y3 y4 : Value) (h2 : Blk w1 (t + 2) (.cells #[x2] 22)) (h3 : Blk w1 (t + 3) (.cells #[x3] 4)) (h4 : Blk w1 (t + 4) (.cells #[x4] 27)) :
    Blk (((w1.setCell ⟨t + 1 + 1, 0, none⟩ y2).setCell ⟨t + 1 + 1 + 1, 0, none⟩ y3).setCell ⟨t + 1 + 1 + 1 + 1, 0, none⟩ y4) (t + 2) (.cells #[y2] 22) ∧
    Blk (((w1.setCell ⟨t + 1 + 1, 0, none⟩ y2).setCell ⟨t + 1 + 1 + 1, 0, none⟩ y3).setCell ⟨t + 1 + 1 + 1 + 1, 0, none⟩ y4) (t + 3) (.cells #[y3] 4) ∧
    Blk (((w1.setCell ⟨t + 1 + 1, 0, none⟩ y2).setCell ⟨t + 1 + 1 + 1, 0, none⟩ y3).setCell ⟨t + 1 + 1 + 1 + 1, 0, none⟩ y4) (t + 4) (.cells #[y4] 27) ∧
    Keeps (fun b => b = t + 2 ∨ b = t + 3 ∨ b = t + 4) w1 (((w1.setCell ⟨t + 1 + 1, 0, none⟩ y2).setCell ⟨t + 1 + 1 + 1, 0, none⟩ y3).setCell ⟨t + 1 + 1 + 1 + 1, 0, none⟩ y4) := by
  have k2 := Keeps.oneSet w1 ⟨t + 1 + 1, 0, none⟩ y2
  have k3 := Keeps.oneSet (w1.setCell ⟨t + 1 + 1, 0, none⟩ y2) ⟨t + 1 + 1 + 1, 0, none⟩ y3
  have k4 := Keeps.oneSet ((w1.setCell ⟨t + 1 + 1, 0, none⟩ y2).setCell ⟨t + 1 + 1 + 1, 0, none⟩ y3) ⟨t + 1 + 1 + 1 + 1, 0, none⟩ y4
  refine ⟨?_, ?_, ?_, ((k2.mono (fun b _ e => .inl e)).trans' k3 (fun b _ e => .inr (.inl e))).trans' k4 (fun b _ e => .inr (.inr e))⟩
  · exact ((h2.set_same (i := 0) y2).set_other (p := ⟨t + 1 + 1 + 1, 0, none⟩) (by show t + 2 ≠ t + 3; omega) _).set_other (p := ⟨t + 1 + 1 + 1 + 1, 0, none⟩) (by show t + 2 ≠ t + 4; omega) _
  · exact ((h3.set_other (p := ⟨t + 1 + 1, 0, none⟩) (by show t + 3 ≠ t + 2; omega) _).set_same (i := 0) y3).set_other (p := ⟨t + 1 + 1 + 1 + 1, 0, none⟩) (by show t + 3 ≠ t + 4; omega) _
  · exact ((h4.set_other (p := ⟨t + 1 + 1, 0, none⟩) (by show t + 4 ≠ t + 2; omega) _).set_other (p := ⟨t + 1 + 1 + 1, 0, none⟩) (by show t + 4 ≠ t + 3; omega) _).set_same (i := 0) y4
theorem rg_load {t : Nat} {W : World} {y2 y3 y4 : Value} (h2 : Blk W (t + 2) (.cells #[y2] 22)) (h3 : Blk W (t + 3) (.cells #[y3] 4)) (h4 : Blk W (t + 4) (.cells #[y4] 27)) {tmps : Array Value}
    (ha : tmps.getD 10 undef = .pointer (some ⟨t + 2, 0, none⟩)) (hb : tmps.getD 11 undef = .pointer (some ⟨t + 3, 0, none⟩)) (hc : tmps.getD 12 undef = .pointer (some ⟨t + 4, 0, none⟩)) : (results Tryz.f15 tmps).run Tryz.prog W = .ok (.tuple #[y2, y3, y4]) W :=
  results_cell3 rfl ha hb hc (loadVar_one Tryz.uEnts rfl (h2.cell (i := 0) (by rfl))) (loadVar_one Tryz.underlying4 rfl (h3.cell (i := 0) (by rfl))) (loadVar_one Tryz.underlying27 rfl (h4.cell (i := 0) (by rfl)))
/-- How Range ends behind its loop. -/
theorem rg_fin {W W9 X : World} {d n k : Nat} {to : ByteArray} {E : List Pair} {lv : Value} {more : Bool} {tmps : Array Value} (hd : Blk W9 d (.deferred (some []))) (hdz : W.heap.size + 5 ≤ d) (h1n : 1 ≤ n) (hn8 : n ≤ 8) (hX : Ext W W9) (hK : Keeps (fun b => b = W.heap.size + 2 ∨ b = W.heap.size + 3 ∨ b = W.heap.size + 4) W9 X)
    (g2 : Blk X (W.heap.size + 2) (.cells #[lv] 22)) (g3 : Blk X (W.heap.size + 3) (.cells #[.bool more] 4)) (g4 : Blk X (W.heap.size + 4) (.cells #[.int .i64 0] 27))
    (hr : W9.ownsRow 0 45 2 lv k (cellsP (E.take k))) (hf : ∀ b, lv.ownBlock = some b → W.heap.size + 5 ≤ b ∧ b ≠ d) (hk : k ≤ E.length) (hu : (uptoL to E).take n = E.take k) (hm : more = decide (n < (uptoL to E).length))
    (ha : tmps.getD 10 undef = .pointer (some ⟨W.heap.size + 2, 0, none⟩)) (hb : tmps.getD 11 undef = .pointer (some ⟨W.heap.size + 3, 0, none⟩)) (hc : tmps.getD 12 undef = .pointer (some ⟨W.heap.size + 4, 0, none⟩)) :
    bodyPostM Fence.wide 0 Tryz.prog Tryz.f15 (RangeP E to (n : Int) W) Exit.ret { tmps := tmps, defers := [{ target := Target.collected d, args := #[] }] } X := by
  have hd2 : Blk X d (.deferred (some [])) := hd.keeps hK (by omega)
  refine ⟨by simp, .inl ⟨_, _, rfl, run_takeDeferred hd2, ?_⟩⟩
  have kp := Keeps.onePut X d (.deferred none)
  have kx : Keeps (fun b => b = W.heap.size + 2 ∨ b = W.heap.size + 3 ∨ b = W.heap.size + 4 ∨ b = d) W9 (X.putObj d (.deferred none)) := (hK.mono (fun b _ e => by rcases e with e | e | e; exact .inl e; exact .inr (.inl e); exact .inr (.inr (.inl e)))).trans' kp (fun b _ e => .inr (.inr (.inr e)))
  refine ⟨_, rg_load (g2.put_other (by omega) _) (g3.put_other (by omega) _) (g4.put_other (by omega) _) ha hb hc, hX.trans' kx (fun b hb e => by omega), ?_⟩
  rw [if_pos (by omega), Int.toNat_natCast]
  refine ⟨lv, by rw [hm], ?_⟩
  rw [hu]
  have hl : (E.take k).length = k := by rw [List.length_take]; omega
  exact ⟨by rw [hl]; exact own_keeps hr kx (fun b hb e => by have := hf b hb; omega), fun b hb => by have := hf b hb; omega⟩
set_option maxRecDepth 100000 in
set_option maxHeartbeats 8000000 in
theorem range_c (W : World) (s bm : Nat) (room : Int) (S : List Nd5) (fr to : ByteArray) (l : List Pair) (limit : Int) (hf : fr.size ≤ 100000) (hM : HasM S l) (hs : StoreAt W s bm room S) :
    Calls Tryz.prog 15 #[.pointer (some ⟨s, 0, none⟩), .string (shaB (trieT l).text), .string fr, .string to, .int .i64 limit] W (RangeP (fromL fr l) to limit W) := by
  have HSK := Lib.hid (fun w (e : Ext W w) => seek_c w s bm room S fr l hf hM (hs.ext e))
  have HS := Lib.hid hs
  have hl40 := (check_ok hM.ok).len
  obtain ⟨k, hk⟩ : ∃ k, k = shaB (trieT l).text := ⟨_, rfl⟩
  rw [← hk] at HSK ⊢
  obtain ⟨E, hE⟩ : ∃ E, E = fromL fr l := ⟨_, rfl⟩
  have HE := Lib.hid hE
  have hEl : E.length ≤ 40 := by
    rw [hE]; unfold fromL
    exact Nat.le_trans (List.length_filter_le _ _) hl40
  have HRS := Lib.hid (show E.Pairwise (fun p q => Lt p.l q.l) by rw [hE]; exact (check_ok hM.ok).rise.filter _)
  rw [← hE]
  have hps := path_size fr
  clear hM hs hk hE hl40
  rw [← callsIn_wide (n := 0)]
  refine callsIn_of_wp_marks Tryz.func15 rfl trivial ?_ rfl
  simp only [Tryz.ntmps15, List.size_toArray, List.length_cons, List.length_nil, Nat.reduceAdd, Nat.reduceSub, Array.replicate_succ, Array.replicate_zero, List.push_toArray, List.append_toArray, List.nil_append, List.cons_append]
  gi_wp2_with fail
  have hA := RgA.new W to limit
  have hX0 : Ext W (((((W.alloc (.cells #[.string to] 9)).alloc (.cells #[.int .i64 limit] 3)).alloc (.cells #[.slice none 0 0] 22)).alloc (.cells #[.bool false] 4)).alloc (.cells #[.int .i64 0] 27)) := ((((((ExtR W).alloc _).alloc _).alloc _).alloc _)).alloc _
  refine ⟨trivial, rfl, CallsIn.mono (callsIn_wide.2 (HSK.out _ hX0)) ?_⟩
  rintro e w1 ⟨c, v, rfl, hc, hv, hX, hC⟩
  rw [rest_from, ← HE.out] at hC
  have hsz0 : W.heap.size + 5 ≤ c := by simpa using hc
  have hv0 : ∀ b, v.ownBlock = some b → W.heap.size + 5 ≤ b := fun b hb => by simpa using hv b hb
  have HCC := Lib.hid (And.intro hsz0 hv0)
  have HX := Lib.hid (hX0.trans hX)
  have HC := Lib.hid hC
  have HA := Lib.hid (hA.keeps hX (fun _ _ _ h => h))
  have p1 : w1.cell? ⟨W.heap.size + 1, 0, none⟩ = some (.int .i64 limit) := HA.out.b1.cell (i := 0) (by rfl)
  have p2 : w1.cell? ⟨W.heap.size + 1 + 1, 0, none⟩ = some (.slice none 0 0) := HA.out.b2.cell (i := 0) (by rfl)
  have p3 : w1.cell? ⟨W.heap.size + 1 + 1 + 1, 0, none⟩ = some (.bool false) := HA.out.b3.cell (i := 0) (by rfl)
  have p4 : w1.cell? ⟨W.heap.size + 1 + 1 + 1 + 1, 0, none⟩ = some (.int .i64 0) := HA.out.b4.cell (i := 0) (by rfl)
  have f2 : w1.frozen? ⟨W.heap.size + 1 + 1, 0, none⟩ = false := HA.out.b2.frozen
  have f3 : w1.frozen? ⟨W.heap.size + 1 + 1 + 1, 0, none⟩ = false := HA.out.b3.frozen
  have f4 : w1.frozen? ⟨W.heap.size + 1 + 1 + 1 + 1, 0, none⟩ = false := HA.out.b4.frozen
  clear hA hX0 hc hv hX hC hsz0 hv0
  by_cases h1 : limit < 1
  · gi_wp2_with fail
    obtain ⟨g2, g3, g4, gk⟩ := rg_set (.slice none 0 0) (.bool false) (.int .i64 1) HA.out.b2 HA.out.b3 HA.out.b4
    refine ⟨_, rg_load g2 g3 g4 rfl rfl rfl, HX.out.trans' gk (fun b hb e => by omega), ?_⟩
    rw [if_neg (by omega)]
  · by_cases h2 : 8 < limit
    · gi_wp2_with fail
      obtain ⟨g2, g3, g4, gk⟩ := rg_set (.slice none 0 0) (.bool false) (.int .i64 1) HA.out.b2 HA.out.b3 HA.out.b4
      refine ⟨_, rg_load g2 g3 g4 rfl rfl rfl, HX.out.trans' gk (fun b hb e => by omega), ?_⟩
      rw [if_neg (by omega)]
    · obtain ⟨n, rfl⟩ : ∃ n : Nat, limit = (n : Int) := ⟨limit.toNat, by omega⟩
      have HN := Lib.hid (show 1 ≤ n ∧ n ≤ 8 by omega)
      gi_wp2_with fail
      clear p1 p2 p3 p4 f2 f3 f4
      obtain ⟨w2, hw2⟩ : ∃ w2, w2 = w1.alloc (.cells #[.slice none 0 0] 22) := ⟨_, rfl⟩
      have hX2 : Ext w1 w2 := by rw [hw2]; exact (ExtR w1).alloc _
      have hB2 : Blk w2 w1.heap.size (.cells #[.slice none 0 0] 22) := by rw [hw2]; exact Blk.new w1 _
      have hz2 : w2.heap.size = w1.heap.size + 1 := by rw [hw2]; simp
      rw [← hw2]
      have hcl := HC.out.lt
      have hz1 : W.heap.size + 5 ≤ w1.heap.size := by have := HA.out.b4.lt; omega
      have hS0 : EaS W S c s (pathB fr) E v (fun b => b < W.heap.size ∨ b = c ∨ v.ownBlock = some b) w2 :=
        ⟨fun b => Iff.rfl, by omega, fun b hb => (hX2.block b (by omega) (fun h => h)).trans (HX.out.block b hb (fun h => h)), HC.out.ext hX2⟩
      have hA2 := HA.out.keeps hX2 (fun _ _ _ h => h)
      have hC0 : RgC w1.heap.size W.heap.size to n E 0 (fun b => (W.heap.size ≤ b ∧ b ≤ W.heap.size + 4) ∨ b = w1.heap.size) w2 :=
        ⟨.slice none 0 0, ⟨fun b => ⟨fun h => h.elim .inl (fun h => .inr (.inl h)), fun h => by
          rcases h with h | h | h
          · exact .inl h
          · exact .inr h
          · cases h⟩, hA2.b0, hA2.b1, hA2.b2, hA2.b3, hA2.b4, hB2, World.ownsRow_nil _ _ _ _, fun b hb => (by cases hb), Nat.zero_le _, fun q hq => (by simp at hq)⟩⟩
      have HX2 := Lib.hid (HX.out.trans hX2)
      have HZ := Lib.hid (And.intro hz2 hz1)
      clear hw2 hX2 hz2 hB2 hA2 hz1
      refine wp_rangeP (N := E.length) (gf := 38) (pre := #[.pointer (some ⟨c, 0, none⟩)]) (lb := #[]) rfl Tryz.enterEachCur
        (cEach_it W c s bm room S HS.out (pathB fr) E v (by omega) (by omega) (by have := HCC.out.1; omega) (fun b hb => by have := HCC.out.2 b hb; omega))
        (EaS.supp W S c s (pathB fr) E v) (fun k => rfl) (RgC w1.heap.size W.heap.size to n E) (RgJ w1.heap.size W.heap.size to n E) (RgC.supp w1.heap.size W.heap.size to n E) (RgJ.supp w1.heap.size W.heap.size to n E)
        (fun b => (W.heap.size ≤ b ∧ b ≤ W.heap.size + 4) ∨ b = w1.heap.size) (fun b => b < W.heap.size ∨ b = c ∨ v.ownBlock = some b) hC0 hS0
        (fun b hb ho => by
          have hc1 := HCC.out.1
          have hc2 := HCC.out.2
          rcases ho with h | h | h
          · rcases hb with hb | hb
            · omega
            · have := HZ.out.2; omega
          · rcases hb with hb | hb <;> omega
          · have h9 := hc2 _ h
            have := hcl.2 _ h
            rcases hb with hb | hb <;> omega)
        (fun j => { tmps := #[.pointer (some ⟨s, 0, none⟩), .string k, .string fr, .string to, .int .i64 (n : Int), undef, undef, undef, .pointer (some ⟨W.heap.size, 0, none⟩),
          .pointer (some ⟨W.heap.size + 1, 0, none⟩), .pointer (some ⟨W.heap.size + 1 + 1, 0, none⟩), .pointer (some ⟨W.heap.size + 1 + 1 + 1, 0, none⟩), .pointer (some ⟨W.heap.size + 1 + 1 + 1 + 1, 0, none⟩),
          .pointer (some ⟨c, 0, none⟩), .int .i64 0, .pointer (some ⟨w1.heap.size, 0, none⟩), .string (atE E j).1, .string (atE E j).2,
          .tuple #[.pointer (some ⟨c, 0, none⟩), .int .i64 0], .pointer (some ⟨s, 0, none⟩), .string k, .string fr, .tuple #[.pointer (some ⟨c, 0, none⟩), .int .i64 0],
          .pointer (some ⟨c, 0, none⟩), .int .i64 0, .int .i64 0, .bool false, undef, .int .i64 (n : Int), .bool (decide ((n : Int) < 1)), .bool (decide ((n : Int) < 1)), .int .i64 (n : Int), .bool (decide (8 < (n : Int))),
          .bool (decide ((n : Int) < 1) || decide (8 < (n : Int))), .pointer (some ⟨c, 0, none⟩), .func (.func 38) #[.pointer (some ⟨c, 0, none⟩)] #[], .string (atE E j).1, .string (atE E j).2,
          undef, undef, undef, undef, undef, undef, undef, undef, undef, undef, undef, undef, undef, undef, undef], defers := [] }) ?hassign ?hbody ?hdone ?hstop EaE.supp
      case hassign =>
        intro y j W9 K hK
        unfold eaV
        rw [fold2]
        gi_wp2
        exact hK
      case hbody =>
        intro y j D W9 hj hc hkp
        obtain ⟨lv, hG⟩ := hc
        obtain ⟨q, hq⟩ : ∃ q, E[j]? = some q := ⟨_, List.getElem?_eq_getElem hj⟩
        have hat : atE E j = q := by unfold atE; rw [List.getD_eq_getElem?_getD, hq]; rfl
        rw [hat]
        obtain ⟨kx, vx⟩ := q
        obtain ⟨ad, cp, hsl⟩ := row_slice hG.row
        subst hsl
        have HG := Lib.hid hG
        have HQ := Lib.hid hq
        have p0 := hG.b0.cell (i := 0) (v := .string to) (by rfl)
        have p5 := hG.b5.cell (i := 0) (v := .slice ad j cp) (by rfl)
        have p1 : W9.cell? ⟨W.heap.size + 1, 0, none⟩ = some (.int .i64 (n : Int)) := hG.b1.cell (i := 0) (by rfl)
        have p2 : W9.cell? ⟨W.heap.size + 1 + 1, 0, none⟩ = some (.slice none 0 0) := hG.b2.cell (i := 0) (by rfl)
        have p3 : W9.cell? ⟨W.heap.size + 1 + 1 + 1, 0, none⟩ = some (.bool false) := hG.b3.cell (i := 0) (by rfl)
        have p4 : W9.cell? ⟨W.heap.size + 1 + 1 + 1 + 1, 0, none⟩ = some (.int .i64 0) := hG.b4.cell (i := 0) (by rfl)
        have f2 : W9.frozen? ⟨W.heap.size + 1 + 1, 0, none⟩ = false := hG.b2.frozen
        have f3 : W9.frozen? ⟨W.heap.size + 1 + 1 + 1, 0, none⟩ = false := hG.b3.frozen
        have f4 : W9.frozen? ⟨W.heap.size + 1 + 1 + 1 + 1, 0, none⟩ = false := hG.b4.frozen
        clear hG hq hat hkp hC0 hS0
        have hcmp := cmp3 kx to
        by_cases hgt : lessB to kx = true
        · have HGT := Lib.hid hgt
          obtain ⟨e1, e2⟩ := hcmp.1 hgt
          clear hcmp hgt
          gi_wp2_with fail
          refine ⟨D, Keeps.refl _ _, fun b hb => .inl hb, .inl ⟨rfl, j, _, HG.out, hj, fun q hq => ?_⟩⟩
          rw [HQ.out] at hq
          obtain rfl := Option.some.inj hq
          exact HGT.out
        · have HGT := Lib.hid (show lessB to kx = false by rw [Bool.eq_false_iff]; exact hgt)
          obtain ⟨b1, b2, e1, e2, e3⟩ := hcmp.2 HGT.out
          clear hcmp hgt
          by_cases hjn : j = n
          · have hjn2 : ((j : Int) == (n : Int)) = true := by simp; omega
            have HJN := Lib.hid hjn
            clear hjn
            gi_wp2_with fail
            have k2 := Keeps.oneSet W9 ⟨W.heap.size + 1 + 1, 0, none⟩ (.slice ad j cp)
            have k3 := Keeps.oneSet (W9.setCell ⟨W.heap.size + 1 + 1, 0, none⟩ (.slice ad j cp)) ⟨W.heap.size + 1 + 1 + 1, 0, none⟩ (.bool true)
            have k4 := Keeps.oneSet ((W9.setCell ⟨W.heap.size + 1 + 1, 0, none⟩ (.slice ad j cp)).setCell ⟨W.heap.size + 1 + 1 + 1, 0, none⟩ (.bool true)) ⟨W.heap.size + 1 + 1 + 1 + 1, 0, none⟩ (.int .i64 0)
            have kall : Keeps (fun b => b = W.heap.size + 2 ∨ b = W.heap.size + 3 ∨ b = W.heap.size + 4) W9 _ := ((k2.mono (fun b _ e => .inl e)).trans' k3 (fun b _ e => .inr (.inl e))).trans' k4 (fun b _ e => .inr (.inr e))
            have hz := HZ.out.2
            have hfar := HG.out.far
            refine ⟨D, kall.mono (fun b _ e => (HG.out.is b).2 (.inl (by omega))), fun b hb => .inl hb, .inr ⟨rfl, .slice ad j cp, (kx, vx), ⟨HG.out.is, HG.out.b0.keeps kall (by omega), HG.out.b1.keeps kall (by omega), ?_, ?_, ?_, HG.out.b5.keeps kall (by omega), own_keeps ?_ kall (fun b hb e => by have := hfar b hb; omega), hfar, Nat.le_refl _, ?_⟩, by rw [← HJN.out]; exact HQ.out, HGT.out⟩⟩
            · exact ((HG.out.b2.set_same (i := 0) (.slice ad j cp)).set_other (p := ⟨W.heap.size + 1 + 1 + 1, 0, none⟩) (by show W.heap.size + 2 ≠ W.heap.size + 3; omega) _).set_other (p := ⟨W.heap.size + 1 + 1 + 1 + 1, 0, none⟩) (by show W.heap.size + 2 ≠ W.heap.size + 4; omega) _
            · exact ((HG.out.b3.set_other (p := ⟨W.heap.size + 1 + 1, 0, none⟩) (by show W.heap.size + 3 ≠ W.heap.size + 2; omega) _).set_same (i := 0) (.bool true)).set_other (p := ⟨W.heap.size + 1 + 1 + 1 + 1, 0, none⟩) (by show W.heap.size + 3 ≠ W.heap.size + 4; omega) _
            · exact ((HG.out.b4.set_other (p := ⟨W.heap.size + 1 + 1, 0, none⟩) (by show W.heap.size + 4 ≠ W.heap.size + 2; omega) _).set_other (p := ⟨W.heap.size + 1 + 1 + 1, 0, none⟩) (by show W.heap.size + 4 ≠ W.heap.size + 3; omega) _).set_same (i := 0) (.int .i64 0)
            · rw [← HJN.out]; exact HG.out.row
            · rw [← HJN.out]; exact HG.out.low
          · have hjn2 : ((j : Int) == (n : Int)) = false := by simp; omega
            have hm1 : j + 1 ≤ maxLen := by unfold maxLen; omega
            have hm2 : (j + 1) * 32 ≤ 140737488355328 := by omega
            have HJN := Lib.hid hjn
            clear hjn p2 p3 p4 f2 f3 f4
            gi_wp2_with (gi_at_builtin; refine wpListIn_app Tryz.sEnts (ORow.any (own_ext HG.out.row ((ExtR W9).alloc _))) (.tmp 46) (.tmp 50) rfl rfl rfl (news_blk (Blk.new W9 _)) (news := [.string kx, .string vx]) (two_one _ _) rfl rfl hm1 hm2 ?_; intro lv' w' r1 r2 r3; have hb5 := (HG.out.b5.keeps ((ExtR W9).alloc (.cells #[.string kx, .string vx] 45)) (fun h => h)).keeps r2 (fun e => by have := HG.out.far _ e; omega); have p5 := hb5.cell (i := 0) (v := .slice ad j cp) (by rfl); have f5 : w'.frozen? ⟨w1.heap.size, 0, none⟩ = false := hb5.frozen; have HRR := Lib.hid (And.intro r1 (And.intro r2 (And.intro r3 hb5))); obtain ⟨ad', cp', hv'⟩ := r1.sl; subst hv'; clear r1 r2 r3 hb5)
            obtain ⟨r1, r2, r3, hb5⟩ := HRR.out
            have hx9 : Ext W9 (W9.alloc (.cells #[.string kx, .string vx] 45)) := (ExtR W9).alloc _
            have k5 := Keeps.oneSet w' ⟨w1.heap.size, 0, none⟩ (.slice ad' (j + 1) cp')
            have kall : Keeps (fun b => b = w1.heap.size ∨ (Value.slice ad j cp).ownBlock = some b) W9 (w'.setCell ⟨w1.heap.size, 0, none⟩ (.slice ad' (j + 1) cp')) := ((hx9.mono (fun b _ e => e.elim)).trans' r2 (fun b _ e => .inr e)).trans' k5 (fun b _ e => .inl e)
            have hz := HZ.out.2
            have hfar := HG.out.far
            have hkk : ∀ i, i ≤ 4 → ¬ (W.heap.size + i = w1.heap.size ∨ (Value.slice ad j cp).ownBlock = some (W.heap.size + i)) := fun i hi e => by
              rcases e with e | e
              · omega
              · have := hfar _ e; omega
            have h9 := HG.out.b5.lt
            have hfar2 : ∀ b, (Value.slice ad' (j + 1) cp').ownBlock = some b → w1.heap.size < b := fun b hb => by
              rcases r3 with h | h
              · exact hfar b (h ▸ hb)
              · have := h b hb; have := hx9.size; omega
            refine ⟨fun b => (W.heap.size ≤ b ∧ b ≤ W.heap.size + 4) ∨ b = w1.heap.size ∨ (Value.slice ad' (j + 1) cp').ownBlock = some b, kall.mono (fun b _ e => (HG.out.is b).2 (.inr e)), fun b hb => ?_, .slice ad' (j + 1) cp', ⟨fun b => Iff.rfl, HG.out.b0.keeps kall (hkk 0 (by omega)), HG.out.b1.keeps kall (hkk 1 (by omega)), HG.out.b2.keeps kall (hkk 2 (by omega)), HG.out.b3.keeps kall (hkk 3 (by omega)), HG.out.b4.keeps kall (hkk 4 (by omega)), hb5.set_same (i := 0) _, own_keeps ?_ k5 (fun b hb e => by have := hfar2 b hb; have e : b = w1.heap.size := e; omega), hfar2, ?_, ?_⟩⟩
            · rcases hb with hb | hb | hb
              · exact .inl ((HG.out.is b).2 (.inl hb))
              · exact .inl ((HG.out.is b).2 (.inr (.inl hb)))
              · rcases r3 with h | h
                · exact .inl ((HG.out.is b).2 (.inr (.inr (h ▸ hb))))
                · have := h b hb; have := hx9.size; exact .inr (by omega)
            · have htk : E.take (j + 1) = E.take j ++ [(kx, vx)] := by rw [List.take_add_one, HQ.out]; rfl
              rw [htk, cellsP_append]
              exact r1.own
            · have := HG.out.le; have := HJN.out; omega
            · have htk : E.take (j + 1) = E.take j ++ [(kx, vx)] := by rw [List.take_add_one, HQ.out]; rfl
              rw [htk]
              intro q hq
              rcases List.mem_append.1 hq with hq | hq
              · exact HG.out.low q hq
              · rw [List.mem_singleton] at hq; subst hq; exact HGT.out
      case hdone =>
        intro D O W9 hkp hc hse hdis hDn hOn hbd h1 h2
        obtain ⟨lv, hG⟩ := hc
        have HG := Lib.hid hG
        have HBD := Lib.hid hbd
        have hKX : Ext W W9 := HX2.out.trans' hkp (fun b hb e => by
          have := HZ.out.2
          have hc1 := HCC.out.1
          rcases e with (e | e) | e | e
          · omega
          · omega
          · omega
          · have := HCC.out.2 b e; omega)
        have HKX := Lib.hid hKX
        have HDN := Lib.hid h1
        obtain ⟨ad, cp, hsl⟩ := row_slice hG.row
        subst hsl
        have p5 := hG.b5.cell (i := 0) (v := .slice ad E.length cp) (by rfl)
        have p2 : W9.cell? ⟨W.heap.size + 1 + 1, 0, none⟩ = some (.slice none 0 0) := hG.b2.cell (i := 0) (by rfl)
        have p3 : W9.cell? ⟨W.heap.size + 1 + 1 + 1, 0, none⟩ = some (.bool false) := hG.b3.cell (i := 0) (by rfl)
        have p4 : W9.cell? ⟨W.heap.size + 1 + 1 + 1 + 1, 0, none⟩ = some (.int .i64 0) := hG.b4.cell (i := 0) (by rfl)
        have f2 : W9.frozen? ⟨W.heap.size + 1 + 1, 0, none⟩ = false := hG.b2.frozen
        have f3 : W9.frozen? ⟨W.heap.size + 1 + 1 + 1, 0, none⟩ = false := hG.b3.frozen
        have f4 : W9.frozen? ⟨W.heap.size + 1 + 1 + 1 + 1, 0, none⟩ = false := hG.b4.frozen
        clear hG hkp hse hdis hDn hOn hbd h1 h2 hC0 hS0 hKX
        gi_wp2_with fail
        obtain ⟨g2, g3, g4, gk⟩ := rg_set (.slice ad E.length cp) (.bool false) (.int .i64 0) HG.out.b2 HG.out.b3 HG.out.b4
        have hup : uptoL to E = E.take E.length := uptoL_stop HRS.out HG.out.low (fun q hq => by rw [List.getElem?_eq_none (Nat.le_refl _)] at hq; cases hq)
        have hle := HG.out.le
        have hz := HZ.out
        refine rg_fin HBD.out (by omega) HN.out.1 HN.out.2 HKX.out gk g2 g3 g4 HG.out.row (fun b hb => ⟨by have := HG.out.far b hb; omega, fun e => HDN.out ((HG.out.is _).2 (.inr (.inr (by rw [← e]; exact hb))))⟩) (Nat.le_refl _) ?_ ?_ rfl rfl rfl
        · rw [hup, List.take_take, Nat.min_eq_right hle]
        · rw [hup, List.length_take, Nat.min_self]; simp; omega
      case hstop =>
        intro cd k9 D O W9 hk1 hk2 hkp hj hse hdis hDn hOn hbd h1 h2
        have HBD := Lib.hid hbd
        have hKX : Ext W W9 := HX2.out.trans' hkp (fun b hb e => by
          have := HZ.out.2
          have hc1 := HCC.out.1
          rcases e with (e | e) | e | e
          · omega
          · omega
          · omega
          · have := HCC.out.2 b e; omega)
        have HKX := Lib.hid hKX
        have HDN := Lib.hid h1
        clear hkp hse hdis hDn hOn hbd hC0 hS0 hKX
        rcases hj with ⟨rfl, k, lv, hG, hke, hstop⟩ | ⟨rfl, lv, q, hG, hq, hlow⟩
        · have HG := Lib.hid hG
          have HSTP := Lib.hid (And.intro hke hstop)
          obtain ⟨ad, cp, hsl⟩ := row_slice hG.row
          subst hsl
          have p5 := hG.b5.cell (i := 0) (v := .slice ad k cp) (by rfl)
          have p2 : W9.cell? ⟨W.heap.size + 1 + 1, 0, none⟩ = some (.slice none 0 0) := hG.b2.cell (i := 0) (by rfl)
          have p3 : W9.cell? ⟨W.heap.size + 1 + 1 + 1, 0, none⟩ = some (.bool false) := hG.b3.cell (i := 0) (by rfl)
          have p4 : W9.cell? ⟨W.heap.size + 1 + 1 + 1 + 1, 0, none⟩ = some (.int .i64 0) := hG.b4.cell (i := 0) (by rfl)
          have f2 : W9.frozen? ⟨W.heap.size + 1 + 1, 0, none⟩ = false := hG.b2.frozen
          have f3 : W9.frozen? ⟨W.heap.size + 1 + 1 + 1, 0, none⟩ = false := hG.b3.frozen
          have f4 : W9.frozen? ⟨W.heap.size + 1 + 1 + 1 + 1, 0, none⟩ = false := hG.b4.frozen
          clear hG hke hstop h1 h2
          gi_wp2_with fail
          obtain ⟨g2, g3, g4, gk⟩ := rg_set (.slice ad k cp) (.bool false) (.int .i64 0) HG.out.b2 HG.out.b3 HG.out.b4
          have hup : uptoL to E = E.take k := uptoL_stop HRS.out HG.out.low HSTP.out.2
          have hle := HG.out.le
          have hz := HZ.out
          have hkl := HSTP.out.1
          refine rg_fin HBD.out (by omega) HN.out.1 HN.out.2 HKX.out gk g2 g3 g4 HG.out.row (fun b hb => ⟨by have := HG.out.far b hb; omega, fun e => HDN.out ((HG.out.is _).2 (.inr (.inr (by rw [← e]; exact hb))))⟩) (by omega) ?_ ?_ rfl rfl rfl
          · rw [hup, List.take_take, Nat.min_eq_right hle]
          · rw [hup, List.length_take]; simp; omega
        · gi_wp2
          obtain ⟨u1, u2⟩ := uptoL_more hG.low hq hlow
          have hz := HZ.out
          have hnl := (List.getElem?_eq_some_iff.1 hq).1
          exact rg_fin HBD.out (by omega) HN.out.1 HN.out.2 HKX.out (Keeps.refl _ _) hG.b2 hG.b3 hG.b4 hG.row (fun b hb => ⟨by have := hG.far b hb; omega, fun e => HDN.out ((hG.is _).2 (.inr (.inr (by rw [← e]; exact hb))))⟩) (by omega) u1 (by rw [decide_eq_true u2]) rfl rfl rfl
end
end Go.Proofs.YtneojlgbcaejmaaGreatDoor
/- store: Add's second loop, plain: what is used counts one more. -/
namespace Go.Proofs.YtneojlgbcaejmaaGreatDoor
section
open Go Go.RowKit
set_option linter.unusedSimpArgs false
set_option linter.unusedVariables false
attribute [local go_sem] Oper.semAt_some
def bumpU (k : Key) (L : List Nd5) : List Nd5 := L.map fun x => if x.1 = k then (x.1, x.2.1, putF 2 (x.2.2.used + 1) x.2.2) else x
def bumps (T : List ByteArray) (L : List Nd5) : List Nd5 := T.foldl (fun L r => bumpU r.data.toList L) L
theorem bumps_snoc (T : List ByteArray) (r : ByteArray) (L : List Nd5) : bumps (T ++ [r]) L = bumpU r.data.toList (bumps T L) := by unfold bumps; rw [List.foldl_append]; rfl
theorem bumpU_keys (k : Key) (L : List Nd5) : (bumpU k L).map (·.1) = L.map (·.1) := by
  unfold bumpU; rw [List.map_map]
  refine List.map_congr_left (fun x _ => ?_)
  simp only [Function.comp]; split <;> rfl
theorem bumpU_blks (k : Key) (L : List Nd5) : (bumpU k L).map (·.2.1) = L.map (·.2.1) := by
  unfold bumpU; rw [List.map_map]
  refine List.map_congr_left (fun x _ => ?_)
  simp only [Function.comp]; split <;> rfl
theorem bumps_keys : ∀ (T : List ByteArray) (L : List Nd5), (bumps T L).map (·.1) = L.map (·.1)
  | [], _ => rfl
  | r :: T, L => by
    show (bumps T (bumpU r.data.toList L)).map (·.1) = _
    rw [bumps_keys T, bumpU_keys]
theorem bumps_blks : ∀ (T : List ByteArray) (L : List Nd5), (bumps T L).map (·.2.1) = L.map (·.2.1)
  | [], _ => rfl
  | r :: T, L => by
    show (bumps T (bumpU r.data.toList L)).map (·.2.1) = _
    rw [bumps_blks T, bumpU_blks]
theorem atL_keys {A B : List Nd5} (h : A.map (·.1) = B.map (·.1)) (k : Key) : (atL A k).isSome = (atL B k).isSome := by
  have e : ∀ L : List Nd5, (atL L k).isSome = (L.map (·.1)).any (fun y => decide (k = y)) := fun L => by
    unfold atL; rw [List.isSome_find?, List.any_map]; rfl
  rw [e, e, h]
theorem bumps_used : ∀ (T : List ByteArray) (L : List Nd5) (lo hi : Int), (∀ x ∈ L, lo ≤ x.2.2.used ∧ x.2.2.used ≤ hi) → ∀ x ∈ bumps T L, lo ≤ x.2.2.used ∧ x.2.2.used ≤ hi + T.length
  | [], L, lo, hi, h => fun x hx => by have := h x hx; simp; exact this
  | r :: T, L, lo, hi, h => fun x hx => by
    have := bumps_used T (bumpU r.data.toList L) lo (hi + 1) (fun y hy => by
      obtain ⟨z, hz, rfl⟩ := List.mem_map.1 hy
      have := h z hz
      split
      · simp only [putF, if_true]; omega
      · omega) x hx
    rw [List.length_cons]; omega
def kvR (x : Nd5) : Nat × ByteArray × List ByteArray := (x.2.1, x.2.2.text, x.2.2.refs)
/-- The given map, whatever is used by now. -/
def Like (W : World) (bg : Nat) (G : List Nd5) : Prop := ∃ G', MapAt W bg G' ∧ ∀ k, (atL G' k).map kvR = (atL G k).map kvR
theorem atL_setB (f c : Nat) (v : Int) (L : List Nd5) (k : Key) : atL (L.map (setB f c v)) k = (atL L k).map (setB f c v) := by
  unfold atL
  rw [List.find?_map]
  congr 1
  refine congrFun (congrArg _ (funext fun x => ?_)) L
  simp only [Function.comp, setB]; split <;> rfl
theorem kvR_setB (f c : Nat) (v : Int) (x : Nd5) : kvR (setB f c v x) = kvR x := by
  unfold setB kvR putF
  by_cases e : x.2.1 = c
  · rw [if_pos e]
    by_cases e2 : f = 2
    · rw [if_pos e2]
    · rw [if_neg e2]
  · rw [if_neg e]
theorem Like.setF {W : World} {bg : Nat} {G : List Nd5} (h : Like W bg G) {c : Nat} {it : It} (hc : ItemAt W c it) {f : Nat} (hf : f = 2 ∨ f = 3) (v : Int) : Like (W.setCell ⟨c, f, none⟩ (.int .i64 v)) bg G := by
  obtain ⟨G', h1, h2⟩ := h
  refine ⟨_, h1.setF hc hf v, fun k => ?_⟩
  rw [atL_setB, Option.map_map, ← h2 k]
  congr 1
  funext x
  exact kvR_setB f c v x
theorem setB_bump {W : World} {bm : Nat} {L : List Nd5} (h : MapAt W bm L) {k : Key} {y : Nd5} (hy : atL L k = some y) : L.map (setB 2 y.2.1 (y.2.2.used + 1)) = bumpU k L := by
  obtain ⟨es, ck, _, h2⟩ := h.mp
  have hk := h2.keys
  rw [List.map_map] at hk
  have hk : (L.map (·.1)).Nodup := hk
  unfold bumpU
  refine List.map_congr_left (fun x hx => ?_)
  unfold setB
  by_cases e : x.2.1 = y.2.1
  · have : x = y := nodup_map_inj h.blks hx (atL_mem hy).1 e
    subst this
    rw [if_pos rfl, if_pos (atL_mem hy).2]
  · rw [if_neg e, if_neg]
    intro e2
    have : x = y := nodup_map_inj hk hx (atL_mem hy).1 (e2.trans (atL_mem hy).2.symm)
    subst this
    exact e rfl
structure Ad2 (w5 : World) (s bm bg : Nat) (room : Int) (S1 G : List Nd5) (F : List ByteArray) (v : Value) (T : List ByteArray) (W : World) : Prop where
  kp : Keeps (fun z => z ∈ S1.map (·.2.1)) w5 W
  st : StoreAt W s bm room (bumps T S1)
  gv : Like W bg G
  row : W.ownsRow 0 9 1 v F.length (F.map Value.string)
theorem Ad2.bump {w5 : World} {s bm bg : Nat} {room : Int} {S1 G : List Nd5} {F : List ByteArray} {v : Value} {T : List ByteArray} {W : World} (h : Ad2 w5 s bm bg room S1 G F v T W)
    (hu : ∀ x ∈ S1, 0 ≤ x.2.2.used ∧ x.2.2.used ≤ 1000000000) (hT : T.length ≤ 1000000) (r : ByteArray) (hr : (atL S1 r.data.toList).isSome = true) :
    ∃ (zb : Nat) (u : Int), (Instr.lookup 89 (.map (some bm)) (.string r) false).run Tryz.prog W = .ok (.pointer (some ⟨zb, 0, none⟩)) W ∧ W.cell? ⟨zb, 2, none⟩ = some (.int .i64 u) ∧ W.frozen? ⟨zb, 2, none⟩ = false ∧ 0 ≤ u ∧ u ≤ 2000000000 ∧
      Ad2 w5 s bm bg room S1 G F v (T ++ [r]) (W.setCell ⟨zb, 2, none⟩ (.int .i64 (u + 1))) ∧ ∀ rv n xs, W.ownsRow 0 9 1 rv n xs → (W.setCell ⟨zb, 2, none⟩ (.int .i64 (u + 1))).ownsRow 0 9 1 rv n xs := by
  have hs : (atL (bumps T S1) r.data.toList).isSome = true := by rw [atL_keys (bumps_keys T S1)]; exact hr
  obtain ⟨y, hy⟩ := Option.isSome_iff_exists.1 hs
  have hym := (atL_mem hy).1
  have hi := h.st.mp.items y hym
  obtain ⟨rv, hb, hrw⟩ := hi.cells
  have hlk := h.st.mp.look r false
  rw [hy] at hlk
  simp only [Bool.false_eq_true, if_false] at hlk
  have hK : Keeps (fun z => z = y.2.1) W (W.setCell ⟨y.2.1, 2, none⟩ (.int .i64 (y.2.2.used + 1))) := Keeps.oneSet W ⟨y.2.1, 2, none⟩ _
  have hN : NoRow W (fun z => z = y.2.1) := fun z cur fz e hz => by
    have e : z = y.2.1 := e
    subst e
    have := hb.uniq hz; injection this with _ h2; exact absurd h2 (by decide)
  have hyb : y.2.1 ∈ S1.map (·.2.1) := by rw [← bumps_blks T S1]; exact List.mem_map.2 ⟨y, hym, rfl⟩
  have hub := bumps_used T S1 0 1000000000 hu y hym
  refine ⟨y.2.1, y.2.2.used, hlk, hb.cell (i := 2) (by rfl), hb.frozen, hub.1, by omega, ⟨h.kp.trans (hK.mono (fun z _ e => by have e : z = _ := e; rw [e]; exact hyb)), ⟨h.st.st.keeps hK (fun e => ?_), ?_⟩, h.gv.setF hi (.inl rfl) _, row_keeps h.row hK hN⟩, fun rv n xs hx => row_keeps hx hK hN⟩
  · have e : s = y.2.1 := e
    rw [e] at h
    have := hb.uniq h.st.st; injection this with _ h2; exact absurd h2 (by decide)
  · rw [bumps_snoc, ← setB_bump h.st.mp hy]
    exact h.st.mp.setF hi (.inl rfl) _
def bumpH (k : Key) (L : List Nd5) : List Nd5 := L.map fun x => if x.1 = k then (x.1, x.2.1, putF 3 (x.2.2.held + 1) x.2.2) else x
theorem setB_bumpH {W : World} {bm : Nat} {L : List Nd5} (h : MapAt W bm L) {k : Key} {y : Nd5} (hy : atL L k = some y) : L.map (setB 3 y.2.1 (y.2.2.held + 1)) = bumpH k L := by
  obtain ⟨es, ck, _, h2⟩ := h.mp
  have hk := h2.keys
  rw [List.map_map] at hk
  have hk : (L.map (·.1)).Nodup := hk
  unfold bumpH
  refine List.map_congr_left (fun x hx => ?_)
  unfold setB
  by_cases e : x.2.1 = y.2.1
  · have : x = y := nodup_map_inj h.blks hx (atL_mem hy).1 e
    subst this
    rw [if_pos rfl, if_pos (atL_mem hy).2]
  · rw [if_neg e, if_neg]
    intro e2
    have : x = y := nodup_map_inj hk hx (atL_mem hy).1 (e2.trans (atL_mem hy).2.symm)
    subst this
    exact e rfl
theorem bumps_held : ∀ (T : List ByteArray) (L : List Nd5) (lo hi : Int), (∀ x ∈ L, lo ≤ x.2.2.held ∧ x.2.2.held ≤ hi) → ∀ x ∈ bumps T L, lo ≤ x.2.2.held ∧ x.2.2.held ≤ hi
  | [], L, lo, hi, h => fun x hx => h x hx
  | r :: T, L, lo, hi, h => fun x hx => by
    refine bumps_held T (bumpU r.data.toList L) lo hi (fun y hy => ?_) x hx
    obtain ⟨z, hz, rfl⟩ := List.mem_map.1 hy
    have := h z hz
    split
    · simp only [putF, if_true]; exact this
    · exact this
theorem Ad2.hold {w5 : World} {s bm bg : Nat} {room : Int} {S1 G : List Nd5} {F : List ByteArray} {v : Value} {T : List ByteArray} {W : World} (h : Ad2 w5 s bm bg room S1 G F v T W)
    (hu : ∀ x ∈ S1, 0 ≤ x.2.2.held ∧ x.2.2.held ≤ 1000000000) (r : ByteArray) (hr : (atL S1 r.data.toList).isSome = true) :
    ∃ (zb : Nat) (u : Int), (Instr.lookup 89 (.map (some bm)) (.string r) false).run Tryz.prog W = .ok (.pointer (some ⟨zb, 0, none⟩)) W ∧ W.cell? ⟨zb, 3, none⟩ = some (.int .i64 u) ∧ W.frozen? ⟨zb, 3, none⟩ = false ∧ 0 ≤ u ∧ u ≤ 1000000000 ∧
      StoreAt (W.setCell ⟨zb, 3, none⟩ (.int .i64 (u + 1))) s bm room (bumpH r.data.toList (bumps T S1)) ∧ Keeps (fun z => z ∈ S1.map (·.2.1)) w5 (W.setCell ⟨zb, 3, none⟩ (.int .i64 (u + 1))) := by
  have hs : (atL (bumps T S1) r.data.toList).isSome = true := by rw [atL_keys (bumps_keys T S1)]; exact hr
  obtain ⟨y, hy⟩ := Option.isSome_iff_exists.1 hs
  have hym := (atL_mem hy).1
  have hi := h.st.mp.items y hym
  obtain ⟨rv, hb, hrw⟩ := hi.cells
  have hlk := h.st.mp.look r false
  rw [hy] at hlk
  simp only [Bool.false_eq_true, if_false] at hlk
  have hK : Keeps (fun z => z = y.2.1) W (W.setCell ⟨y.2.1, 3, none⟩ (.int .i64 (y.2.2.held + 1))) := Keeps.oneSet W ⟨y.2.1, 3, none⟩ _
  have hyb : y.2.1 ∈ S1.map (·.2.1) := by rw [← bumps_blks T S1]; exact List.mem_map.2 ⟨y, hym, rfl⟩
  have hub := bumps_held T S1 0 1000000000 hu y hym
  refine ⟨y.2.1, y.2.2.held, hlk, hb.cell (i := 3) (by rfl), hb.frozen, hub.1, hub.2, ⟨h.st.st.keeps hK (fun e => ?_), ?_⟩, h.kp.trans (hK.mono (fun z _ e => by have e : z = _ := e; rw [e]; exact hyb))⟩
  · have e : s = y.2.1 := e
    rw [e] at h
    have := hb.uniq h.st.st; injection this with _ h2; exact absurd h2 (by decide)
  · rw [← setB_bumpH h.st.mp hy]
    exact h.st.mp.setF hi (.inr rfl) _
end
end Go.Proofs.YtneojlgbcaejmaaGreatDoor
