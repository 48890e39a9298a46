/- The feed's contracts by what is seen of the state, with a set of blocks that stay; notice, do, few. -/
import Derived.Test.YtdempgabidbjfaaFeedK
namespace Go.Proofs.Ytdempgabidbjfaa
open Go Go.RowKit
set_option linter.unusedSimpArgs false
set_option linter.unusedVariables false

def followsV (A : List AQ) (k : Int) : Bool := ((getA A k).map (·.1)).getD false
def waitsV (A : List AQ) (k : Int) : Nat := ((getA A k).map (·.2.length)).getD 0
def nfolV (A : List AQ) : Nat := (A.filter (·.2.1)).length
def orderV (A : List AQ) : List Int := sorted (A.map (·.1))

theorem followsV_view (es : List QQ) (k : Int) : followsV (view es) k = followsB es k := by
  unfold followsV followsB; rw [getA_view, Option.map_map]; rfl
theorem waitsV_view (es : List QQ) (k : Int) : waitsV (view es) k = waitsN es k := by
  unfold waitsV waitsN; rw [getA_view, Option.map_map]
  cases getQ es k <;> simp
theorem nfolV_view (es : List QQ) : nfolV (view es) = nfol es := by
  unfold nfolV nfol view; rw [List.filter_map, List.length_map]; rfl
theorem orderV_view (es : List QQ) : orderV (view es) = order es := by unfold orderV order; rw [view_ids]
theorem view_len (es : List QQ) : (view es).length = es.length := by simp [view]

/-- What always holds of a feed that is seen so. -/
structure VOk (room : Int) (A : List AQ) : Prop where
  ids : (A.map (·.1)).Nodup
  fols : nfolV A ≤ 4
  full : ∀ x ∈ A, (x.2.2.length : Int) ≤ room + 1
  lo : 1 ≤ room
  hi : room ≤ 4
  few : A.length ≤ 1000
  wf : ∀ x ∈ A, (-9223372036854775808 ≤ x.1 ∧ x.1 ≤ 9223372036854775807)

/-- A feed in the world, none of whose blocks is in X. -/
def FV (X : BSet) (w : World) (bf bm : Nat) (room : Int) (A : List AQ) : Prop :=
  ∃ clock es, FeedAt w bf bm room clock es ∧ view es = A ∧ (∀ b ∈ fBlocks bf bm es, ¬ X b) ∧ ∀ b, X b → b < w.heap.size

theorem FV.ok {X : BSet} {w : World} {bf bm : Nat} {room : Int} {A : List AQ} (h : FV X w bf bm room A) : VOk room A := by
  obtain ⟨ck, es, h1, rfl, _, _⟩ := h
  refine ⟨by rw [view_ids]; exact h1.ids, by rw [nfolV_view]; exact h1.fols, fun x hx => ?_, h1.lo, h1.hi, by rw [view_len]; exact h1.few, fun x hx => ?_⟩
  · obtain ⟨q, hq, rfl⟩ := List.mem_map.1 hx
    simp only [QQ.abs, List.length_map]; exact h1.full q hq
  · obtain ⟨q, hq, rfl⟩ := List.mem_map.1 hx
    exact h1.wf q hq

theorem FV.next {X : BSet} {w w' : World} {bf bm : Nat} {room : Int} {es : List QQ} {A' : List AQ} (hb : ∀ b ∈ fBlocks bf bm es, ¬ X b) (hx : ∀ b, X b → b < w.heap.size) (h : Next w w' bf bm room es A') :
    FV X w' bf bm room A' ∧ Keeps (fun b => ¬ X b) w w' := by
  obtain ⟨ck, es', h1, h2, h3, h4⟩ := h
  refine ⟨⟨ck, es', h1, h2, fun b hb' hX => ?_, fun b hX => Nat.lt_of_lt_of_le (hx b hX) h3.size⟩, h3.mono fun b _ hb' => hb b hb'⟩
  rcases h4 b hb' with h | h
  · exact hb b h hX
  · have := hx b hX; omega

/-- Another's steps, and another set. -/
theorem FV.turn {X Y F : BSet} {w w' : World} {bf bm : Nat} {room : Int} {A : List AQ} (h : FV X w bf bm room A) (k : Keeps F w w') (hF : ∀ b, F b → X b ∨ w.heap.size ≤ b) (hY : ∀ b, Y b → (X b ∨ w.heap.size ≤ b) ∧ b < w'.heap.size) :
    FV Y w' bf bm room A := by
  obtain ⟨ck, es, h1, h2, h3, h4⟩ := h
  refine ⟨ck, es, h1.keeps k (fun b hb hf => ?_), h2, fun b hb hy => ?_, fun b hy => (hY b hy).2⟩
  · rcases hF b hf with e | e
    · exact h3 b hb e
    · have := h1.lt hb; omega
  · rcases (hY b hy).1 with e | e
    · exact h3 b hb e
    · have := h1.lt hb; omega
theorem FV.lt {X : BSet} {w : World} {bf bm : Nat} {room : Int} {A : List AQ} (h : FV X w bf bm room A) {b : Nat} (hb : X b) : b < w.heap.size := by
  obtain ⟨_, _, _, _, _, h4⟩ := h; exact h4 b hb
theorem FV.bf {X : BSet} {w : World} {bf bm : Nat} {room : Int} {A : List AQ} (h : FV X w bf bm room A) : bf < w.heap.size ∧ ¬ X bf := by
  obtain ⟨_, es, h1, _, h3, _⟩ := h; exact ⟨h1.feed.lt, h3 bf (by simp [fBlocks])⟩

section
variable {X : BSet} {w : World} {bf bm : Nat} {room : Int} {A : List AQ} (h : FV X w bf bm room A)
include h

theorem follows_v (k : Int) : Calls Try.prog 12 #[.pointer (some ⟨bf, 0, none⟩), .int .i64 k] w fun e w' => e = .returned (.bool (followsV A k)) ∧ w' = w := by
  obtain ⟨ck, es, h1, rfl, _, _⟩ := h
  rw [followsV_view]; exact follows_c h1 k
theorem waiting_v (k : Int) : Calls Try.prog 11 #[.pointer (some ⟨bf, 0, none⟩), .int .i64 k] w fun e w' => e = .returned (.int .i64 (waitsV A k)) ∧ w' = w := by
  obtain ⟨ck, es, h1, rfl, _, _⟩ := h
  rw [waitsV_view]; exact waiting_c h1 k

def Left (X : BSet) (w w' : World) (bf bm : Nat) (room : Int) (A : List AQ) : Prop := FV X w' bf bm room A ∧ Keeps (fun b => ¬ X b) w w'

def subOk (A : List AQ) (k : Int) : Bool := !followsV A k && decide (nfolV A < 4)
theorem subscribe_v (k : Int) (hk : -9223372036854775808 ≤ k ∧ k ≤ 9223372036854775807) (hl : A.length < 1000) :
    Calls Try.prog 15 #[.pointer (some ⟨bf, 0, none⟩), .int .i64 k] w fun e w' => e = .returned (.bool (subOk A k)) ∧ Left X w w' bf bm room (if subOk A k then subA A k else A) := by
  obtain ⟨ck, es, h1, rfl, h3, h4⟩ := h
  rw [view_len] at hl
  refine (subscribe_c h1 k hk hl).mono ?_
  rintro e w' ⟨ok, rfl, hok, hn⟩
  have e1 : ok = subOk (view es) k := by unfold subOk; rw [followsV_view, nfolV_view]; exact hok
  subst e1
  exact ⟨rfl, FV.next h3 h4 hn⟩
theorem unsub_v (k : Int) : Calls Try.prog 17 #[.pointer (some ⟨bf, 0, none⟩), .int .i64 k] w fun e w' => e = .returned (.bool (followsV A k)) ∧ Left X w w' bf bm room (unsubA A k) := by
  obtain ⟨ck, es, h1, rfl, h3, h4⟩ := h
  refine (unsub_c h1 k).mono ?_
  rintro e w' ⟨rfl, hn⟩
  exact ⟨by rw [followsV_view], FV.next h3 h4 hn⟩
theorem pop_v (k : Int) : Calls Try.prog 14 #[.pointer (some ⟨bf, 0, none⟩), .int .i64 k] w fun e w' => PopRet A k e ∧ Left X w w' bf bm room (popA A k) := by
  obtain ⟨ck, es, h1, rfl, h3, h4⟩ := h
  refine (pop_c h1 k).mono ?_
  rintro e w' ⟨hr, hn⟩
  exact ⟨hr, FV.next h3 h4 hn⟩
theorem forget_v (k : Int) : Calls Try.prog 13 #[.pointer (some ⟨bf, 0, none⟩), .int .i64 k] w fun e w' => e = .returned (.int .i64 (waitsV A k)) ∧ Left X w w' bf bm room (remA A k) := by
  obtain ⟨ck, es, h1, rfl, h3, h4⟩ := h
  refine (forget_c h1 k).mono ?_
  rintro e w' ⟨rfl, hf, hk⟩
  refine ⟨by rw [waitsV_view], FV.next h3 h4 ⟨ck, _, hf, remA_view es k, hk.mono fun b _ e => by subst e; simp [fOwn, fBlocks], fun b hb => .inl ?_⟩⟩
  exact (((own_sub (remQ_sub es k)).cons_cons bm).cons_cons bf).mem hb
theorem sessions_v : Calls Try.prog 10 #[.pointer (some ⟨bf, 0, none⟩)] w fun e w' =>
    ∃ g, e = .returned (.slice (some ⟨g, 0, none⟩) A.length A.length) ∧ Blk w' g (.cells (ints (orderV A)).toArray 3) ∧ Ext w w' ∧ w.heap.size ≤ g := by
  obtain ⟨ck, es, h1, rfl, h3, h4⟩ := h
  refine (sessions_c h1).mono ?_
  rintro e w' ⟨g, rfl, h5, h6, h7⟩
  exact ⟨g, by rw [view_len], by rw [orderV_view]; exact h5, h6, h7⟩
/-- Push's answer: new, and not the feed's. -/
theorem push_v (n : Ntc) (hn : ChgOk w n.chg) (hx : ∀ b, n.chg.ownBlock = some b → X b) : Calls Try.prog 16 #[.pointer (some ⟨bf, 0, none⟩), .agg n.cells.toArray] w fun e w' =>
    ∃ a c, e = .returned (.slice a (lagged room A (orderV A)).length c) ∧ FV (fun b => X b ∨ (Value.slice a (lagged room A (orderV A)).length c).ownBlock = some b) w' bf bm room (pushA room n.abs A) ∧ Keeps (fun b => ¬ X b) w w' ∧
    w'.ownsRow 0 3 1 (.slice a (lagged room A (orderV A)).length c) (lagged room A (orderV A)).length (ints (lagged room A (orderV A))) ∧ ∀ b, (Value.slice a (lagged room A (orderV A)).length c).ownBlock = some b → w.heap.size ≤ b := by
  obtain ⟨ck, es, h1, rfl, h3, h4⟩ := h
  refine (push_c h1 n hn (fun b hb hb' => h3 b hb' (hx b hb))).mono ?_
  rintro e w' ⟨ck', es', lv, rfl, g1, g2, g3, g4, g5, g6⟩
  obtain ⟨a, c, rfl⟩ := row_slice g5
  rw [orderV_view]
  refine ⟨a, c, rfl, ⟨ck', es', g1, g2, fun b hb hX => ?_, fun b hX => ?_⟩, g3.mono fun b _ hb => h3 b hb, g5, fun b hb => (g6 b hb).1⟩
  · rcases hX with hX | hX
    · rcases g4 b hb with e | e
      · exact h3 b e hX
      · have := h4 b hX; omega
    · exact (g6 b hX).2 hb
  · rcases hX with hX | hX
    · exact Nat.lt_of_lt_of_le (h4 b hX) g3.size
    · exact (World.ownsRow.lt g5 b hX).2
end

/-- What an act does. -/
def doA (room : Int) (A : List AQ) (k s b : Int) (r : List UInt8) : List AQ :=
  if k = 0 then (if subOk A s then subA A s else A) else if k = 1 then unsubA A s else if k = 2 then pushA room (77, 0, b, r) A else if k = 3 then popA A s else remA A s

theorem setA_len (A : List AQ) (k : Int) (v : Bool × List NtcA) : (setA A k v).length = A.length := by simp [setA]
theorem remA_len (A : List AQ) (k : Int) : (remA A k).length ≤ A.length := List.length_filter_le _ _
theorem tidyA_len (A : List AQ) (k : Int) : (tidyA A k).length ≤ A.length := by
  unfold tidyA; split
  · exact remA_len _ _
  · exact Nat.le_refl _
theorem doA_len (room : Int) (A : List AQ) (k s b : Int) (r : List UInt8) : (doA room A k s b r).length ≤ A.length + 1 := by
  unfold doA
  split
  · split
    · unfold subA; split <;> simp [setA_len]
    · omega
  split
  · unfold unsubA; split
    · have := tidyA_len (setA A s (false, by assumption)) s
      rw [setA_len] at this
      refine Nat.le_trans (tidyA_len _ _) ?_
      rw [setA_len]; omega
    · omega
  split
  · simp [pushA]
  split
  · unfold popA; split
    · refine Nat.le_trans (tidyA_len _ _) ?_
      rw [setA_len]; omega
    · omega
  · exact Nat.le_trans (remA_len _ _) (by omega)

theorem getA_rem {A : List AQ} {k o : Int} (hne : o ≠ k) : getA (remA A k) o = getA A o := by
  unfold getA remA
  rw [List.find?_filter]
  congr 2
  funext x
  by_cases h : o = x.1
  · have : k ≠ x.1 := fun e => hne (h.trans e.symm)
    simp [h, this]
  · simp [h]
theorem getA_set {A : List AQ} {k o : Int} (v : Bool × List NtcA) (hne : o ≠ k) : getA (setA A k v) o = getA A o := by
  unfold getA setA
  rw [List.find?_map]
  have : (fun x : AQ => decide (o = x.1)) ∘ (fun x => if k = x.1 then (x.1, v) else x) = fun x : AQ => decide (o = x.1) := by
    funext x; simp only [Function.comp]; split <;> simp
  rw [this]
  cases hf : A.find? (fun x => decide (o = x.1)) with
  | none => rfl
  | some x =>
    have h1 : o = x.1 := by simpa using List.find?_some hf
    have : k ≠ x.1 := fun e => hne (h1.trans e.symm)
    simp [this]
theorem getA_tidy {A : List AQ} {k o : Int} (hne : o ≠ k) : getA (tidyA A k) o = getA A o := by
  unfold tidyA; split
  · exact getA_rem hne
  · rfl
theorem getA_do {room : Int} {A : List AQ} {k s b : Int} {r : List UInt8} {o : Int} (hne : o ≠ s) (hk : k ≠ 2) : getA (doA room A k s b r) o = getA A o := by
  unfold doA
  split
  · split
    · unfold subA; split
      · exact getA_set _ hne
      · unfold getA; rw [List.find?_append]
        cases A.find? (fun x => decide (o = x.1)) with
        | none => simp [hne]
        | some x => rfl
    · rfl
  split
  · unfold unsubA; split
    · rw [getA_tidy hne, getA_set _ hne]
    · rfl
  split
  · unfold popA; split
    · rw [getA_tidy hne, getA_set _ hne]
    · rfl
  · exact getA_rem hne

set_option maxHeartbeats 1000000 in
theorem notice_c (w : World) (k s b : Int) (r : List UInt8) : Calls Try.prog 18 #[.agg #[.int .i64 k, .int .i64 s, .int .i64 b, str r]] w fun e w' =>
    ∃ g, e = .returned (.agg #[.int .i64 77, .int .i64 0, .int .i64 b, str r, .slice (some ⟨g, 0, none⟩) 1 1]) ∧ Blk w' g (.cells #[str [107], str r, .bool false] 61) ∧ Ext w w' ∧ w.heap.size ≤ g := by
  unfold str
  generalize (ByteArray.mk r.toArray) = S
  go_enter Try.func18, Try.ntmps18
  go_wp2
  refine bodyPost_ret (v := .agg #[.int .i64 77, .int .i64 0, .int .i64 b, .string S, .slice (some ⟨w.heap.size + 1 + 1, 0, none⟩) 1 1]) (by simp [results, Try.results18, go_sem]) rfl ⟨w.heap.size + 1 + 1, rfl, ?_, ?_, by omega⟩
  · have := Blk.new ((w.alloc (.cells #[.int .i64 k, .int .i64 s, .int .i64 b, .string S] 36)).alloc (.cells #[.int .i64 77, .int .i64 0, .int .i64 b, .string S, .slice (some ⟨w.heap.size + 1 + 1, 0, none⟩) 1 1] 31)) (.cells #[.string ⟨#[107]⟩, .string S, .bool false] 61)
    rw [World.size_alloc, World.size_alloc] at this; exact this
  · exact (((Keeps.refl _ w).alloc _).alloc _).alloc _

/-- Acts in memory. -/
def ActsAt (w : World) (v : Value) (n : Nat) (acts : Nat → Int × Int × Int × List UInt8) : Prop :=
  ∃ a c, v = .slice a n c ∧ n ≤ maxLen ∧ ∀ i, i < n → ∃ b o, a = some ⟨b, o, none⟩ ∧ b < w.heap.size ∧ w.cell? ⟨b, o + i * 4, none⟩ = some (.int .i64 (acts i).1) ∧ w.cell? ⟨b, o + i * 4 + 1, none⟩ = some (.int .i64 (acts i).2.1) ∧
    w.cell? ⟨b, o + i * 4 + 2, none⟩ = some (.int .i64 (acts i).2.2.1) ∧ w.cell? ⟨b, o + i * 4 + 3, none⟩ = some (str (acts i).2.2.2) ∧ (-9223372036854775808 ≤ (acts i).2.1 ∧ (acts i).2.1 ≤ 9223372036854775807)

set_option maxHeartbeats 1000000 in
theorem do_c {X : BSet} {w : World} {bf bm : Nat} {room : Int} {A : List AQ} (h : FV X w bf bm room A) (k s b : Int) (r : List UInt8) (hs : -9223372036854775808 ≤ s ∧ s ≤ 9223372036854775807) (hl : A.length < 1000) :
    Calls Try.prog 9 #[.pointer (some ⟨bf, 0, none⟩), .agg #[.int .i64 k, .int .i64 s, .int .i64 b, str r]] w fun e w' => (∃ v, e = .returned v) ∧ Left X w w' bf bm room (doA room A k s b r) := by
  obtain ⟨S, hS⟩ : ∃ S : ByteArray, S = ⟨r.toArray⟩ := ⟨_, rfl⟩
  have hstr : str r = .string S := by rw [hS]; rfl
  have HS := Lib.hid hstr
  rw [hstr]
  clear hS hstr
  obtain ⟨W0, hW0⟩ : ∃ W0, W0 = ((w.alloc (.cells #[.int .i64 k, .int .i64 s, .int .i64 b, .string S] 36)).alloc (.cells #[.bool false, .int .i64 0, .slice none 0 0, .int .i64 0, .int .i64 0, .int .i64 0, .string ⟨#[]⟩, .slice none 0 0] 33)).alloc (.cells #[.bool false, .int .i64 0, .slice none 0 0, .int .i64 0, .int .i64 0, .int .i64 0, .string ⟨#[]⟩, .slice none 0 0] 33) := ⟨_, rfl⟩
  have E0 : Ext w W0 := by rw [hW0]; exact (((Keeps.refl _ w).alloc _).alloc _).alloc _
  have S0 : W0.heap.size = w.heap.size + 3 := by rw [hW0]; simp
  have BA : Blk W0 w.heap.size (.cells #[.int .i64 k, .int .i64 s, .int .i64 b, .string S] 36) := by rw [hW0]; exact ((Blk.new w _).alloc _).alloc _
  have BR : Blk W0 (w.heap.size + 1) (.cells #[.bool false, .int .i64 0, .slice none 0 0, .int .i64 0, .int .i64 0, .int .i64 0, .string ⟨#[]⟩, .slice none 0 0] 33) := by
    rw [hW0]
    have := Blk.new (w.alloc (.cells #[.int .i64 k, .int .i64 s, .int .i64 b, .string S] 36)) (.cells #[.bool false, .int .i64 0, .slice none 0 0, .int .i64 0, .int .i64 0, .int .i64 0, .string ⟨#[]⟩, .slice none 0 0] 33)
    rw [World.size_alloc] at this; exact this.alloc _
  have BT : Blk W0 (w.heap.size + 1 + 1) (.cells #[.bool false, .int .i64 0, .slice none 0 0, .int .i64 0, .int .i64 0, .int .i64 0, .string ⟨#[]⟩, .slice none 0 0] 33) := by
    rw [hW0]
    have := Blk.new ((w.alloc (.cells #[.int .i64 k, .int .i64 s, .int .i64 b, .string S] 36)).alloc (.cells #[.bool false, .int .i64 0, .slice none 0 0, .int .i64 0, .int .i64 0, .int .i64 0, .string ⟨#[]⟩, .slice none 0 0] 33)) (.cells #[.bool false, .int .i64 0, .slice none 0 0, .int .i64 0, .int .i64 0, .int .i64 0, .string ⟨#[]⟩, .slice none 0 0] 33)
    rw [World.size_alloc, World.size_alloc] at this; exact this
  have FY := Lib.hid (h.turn (Y := fun b => X b ∨ b = w.heap.size ∨ b = w.heap.size + 1 ∨ b = w.heap.size + 1 + 1) E0 (fun _ g => g.elim) (fun b hb => by
    rcases hb with hb | hb | hb | hb
    · exact ⟨.inl hb, Nat.lt_of_lt_of_le (h.lt hb) E0.size⟩
    · exact ⟨.inr (by omega), by omega⟩
    · exact ⟨.inr (by omega), by omega⟩
    · exact ⟨.inr (by omega), by omega⟩))
  have HXL := Lib.hid (fun b (hb : X b) => h.lt hb)
  have HFIN := Lib.hid (show ∀ W2 W3 A', FV (fun b => X b ∨ b = w.heap.size ∨ b = w.heap.size + 1 ∨ b = w.heap.size + 1 + 1) W2 bf bm room A' → Keeps (fun b => ¬ (X b ∨ b = w.heap.size ∨ b = w.heap.size + 1 ∨ b = w.heap.size + 1 + 1)) W0 W2 → Keeps (fun b => b = w.heap.size + 1 ∨ b = w.heap.size + 1 + 1) W2 W3 → Left X w W3 bf bm room A' from by
    intro W2 W3 A' g1 g2 g3
    refine ⟨g1.turn g3 (fun b hb => .inl (.inr (.inr hb))) (fun b hb => ⟨.inl (.inl hb), ?_⟩), ?_⟩
    · have := HXL.out b hb; have := E0.size; have := g2.size; have := g3.size; omega
    · exact ((E0.mono (fun _ _ g => g.elim)).trans' g2 (fun x _ hx hX => hx (.inl hX))).trans' g3 (fun x hx e => by omega))
  go_enter Try.func9, Try.ntmps9
  by_cases k0 : k = 0
  · subst k0
    go_wp2_with fail
    rw [← hW0]
    refine (subscribe_v FY.out s hs hl).mono ?_
    rintro e w' ⟨rfl, F1, K1⟩
    have T := BT.keeps K1 (fun e => e (.inr (.inr (.inr rfl))))
    have R := BR.keeps K1 (fun e => e (.inr (.inr (.inl rfl))))
    have t0 := T.cell (i := 0) (v := .bool false) (by rfl)
    have t1 := T.cell (i := 1) (v := .int .i64 0) (by rfl)
    have t2 := T.cell (i := 2) (v := .slice none 0 0) (by rfl)
    have t3 := T.cell (i := 3) (v := .int .i64 0) (by rfl)
    have t4 := T.cell (i := 4) (v := .int .i64 0) (by rfl)
    have t5 := T.cell (i := 5) (v := .int .i64 0) (by rfl)
    have t6 := T.cell (i := 6) (v := .string ⟨#[]⟩) (by rfl)
    have t7 := T.cell (i := 7) (v := .slice none 0 0) (by rfl)
    have tf : ∀ i, w'.frozen? ⟨w.heap.size + 1 + 1, i, none⟩ = false := fun i => T.frozen
    have r0 := R.cell (i := 0) (v := .bool false) (by rfl)
    have r1 := R.cell (i := 1) (v := .int .i64 0) (by rfl)
    have r2 := R.cell (i := 2) (v := .slice none 0 0) (by rfl)
    have r3 := R.cell (i := 3) (v := .int .i64 0) (by rfl)
    have r4 := R.cell (i := 4) (v := .int .i64 0) (by rfl)
    have r5 := R.cell (i := 5) (v := .int .i64 0) (by rfl)
    have r6 := R.cell (i := 6) (v := .string ⟨#[]⟩) (by rfl)
    have r7 := R.cell (i := 7) (v := .slice none 0 0) (by rfl)
    have rf : ∀ i, w'.frozen? ⟨w.heap.size + 1, i, none⟩ = false := fun i => R.frozen
    have HF1 := Lib.hid F1
    have HK1 := Lib.hid K1
    clear F1 K1 T R E0 BA BR BT h S0
    go_wp2
    refine bodyPost_ret (v := .agg #[.bool (subOk A s), .int .i64 0, .slice none 0 0, .int .i64 0, .int .i64 0, .int .i64 0, .string ⟨#[]⟩, .slice none 0 0]) (by simp [results, Try.results9, go_sem, r0, r1, r2, r3, r4, r5, r6, r7, rf]) rfl ⟨⟨_, rfl⟩, ?_⟩
    rw [show doA room A 0 s b r = (if subOk A s then subA A s else A) from by simp [doA]]
    exact HFIN.out w' _ _ HF1.out HK1.out ((((((((((Keeps.refl (fun b => b = w.heap.size + 1 ∨ b = w.heap.size + 1 + 1) w').setCell (p := ⟨w.heap.size + 1 + 1, 0, none⟩) (.inl (.inr rfl)) (.bool (subOk A s))).setCell (p := ⟨w.heap.size + 1, 0, none⟩) (.inl (.inl rfl)) (.bool (subOk A s))).setCell (p := ⟨w.heap.size + 1, 1, none⟩) (.inl (.inl rfl)) (.int .i64 0)).setCell (p := ⟨w.heap.size + 1, 2, none⟩) (.inl (.inl rfl)) (.slice none 0 0)).setCell (p := ⟨w.heap.size + 1, 3, none⟩) (.inl (.inl rfl)) (.int .i64 0)).setCell (p := ⟨w.heap.size + 1, 4, none⟩) (.inl (.inl rfl)) (.int .i64 0)).setCell (p := ⟨w.heap.size + 1, 5, none⟩) (.inl (.inl rfl)) (.int .i64 0)).setCell (p := ⟨w.heap.size + 1, 6, none⟩) (.inl (.inl rfl)) (.string ⟨#[]⟩)).setCell (p := ⟨w.heap.size + 1, 7, none⟩) (.inl (.inl rfl)) (.slice none 0 0))
  have q0 : (k == 0) = false := by simpa using k0
  by_cases k1 : k = 1
  · subst k1
    go_wp2_with fail
    rw [← hW0]
    refine (unsub_v FY.out s).mono ?_
    rintro e w' ⟨rfl, F1, K1⟩
    have T := BT.keeps K1 (fun e => e (.inr (.inr (.inr rfl))))
    have R := BR.keeps K1 (fun e => e (.inr (.inr (.inl rfl))))
    have t0 := T.cell (i := 0) (v := .bool false) (by rfl)
    have t1 := T.cell (i := 1) (v := .int .i64 0) (by rfl)
    have t2 := T.cell (i := 2) (v := .slice none 0 0) (by rfl)
    have t3 := T.cell (i := 3) (v := .int .i64 0) (by rfl)
    have t4 := T.cell (i := 4) (v := .int .i64 0) (by rfl)
    have t5 := T.cell (i := 5) (v := .int .i64 0) (by rfl)
    have t6 := T.cell (i := 6) (v := .string ⟨#[]⟩) (by rfl)
    have t7 := T.cell (i := 7) (v := .slice none 0 0) (by rfl)
    have tf : ∀ i, w'.frozen? ⟨w.heap.size + 1 + 1, i, none⟩ = false := fun i => T.frozen
    have r0 := R.cell (i := 0) (v := .bool false) (by rfl)
    have r1 := R.cell (i := 1) (v := .int .i64 0) (by rfl)
    have r2 := R.cell (i := 2) (v := .slice none 0 0) (by rfl)
    have r3 := R.cell (i := 3) (v := .int .i64 0) (by rfl)
    have r4 := R.cell (i := 4) (v := .int .i64 0) (by rfl)
    have r5 := R.cell (i := 5) (v := .int .i64 0) (by rfl)
    have r6 := R.cell (i := 6) (v := .string ⟨#[]⟩) (by rfl)
    have r7 := R.cell (i := 7) (v := .slice none 0 0) (by rfl)
    have rf : ∀ i, w'.frozen? ⟨w.heap.size + 1, i, none⟩ = false := fun i => R.frozen
    have HF1 := Lib.hid F1
    have HK1 := Lib.hid K1
    clear F1 K1 T R E0 BA BR BT h S0
    go_wp2
    refine bodyPost_ret (v := .agg #[.bool (followsV A s), .int .i64 0, .slice none 0 0, .int .i64 0, .int .i64 0, .int .i64 0, .string ⟨#[]⟩, .slice none 0 0]) (by simp [results, Try.results9, go_sem, r0, r1, r2, r3, r4, r5, r6, r7, rf]) rfl ⟨⟨_, rfl⟩, ?_⟩
    rw [show doA room A 1 s b r = unsubA A s from by simp [doA]]
    exact HFIN.out w' _ _ HF1.out HK1.out ((((((((((Keeps.refl (fun b => b = w.heap.size + 1 ∨ b = w.heap.size + 1 + 1) w').setCell (p := ⟨w.heap.size + 1 + 1, 0, none⟩) (.inl (.inr rfl)) (.bool (followsV A s))).setCell (p := ⟨w.heap.size + 1, 0, none⟩) (.inl (.inl rfl)) (.bool (followsV A s))).setCell (p := ⟨w.heap.size + 1, 1, none⟩) (.inl (.inl rfl)) (.int .i64 0)).setCell (p := ⟨w.heap.size + 1, 2, none⟩) (.inl (.inl rfl)) (.slice none 0 0)).setCell (p := ⟨w.heap.size + 1, 3, none⟩) (.inl (.inl rfl)) (.int .i64 0)).setCell (p := ⟨w.heap.size + 1, 4, none⟩) (.inl (.inl rfl)) (.int .i64 0)).setCell (p := ⟨w.heap.size + 1, 5, none⟩) (.inl (.inl rfl)) (.int .i64 0)).setCell (p := ⟨w.heap.size + 1, 6, none⟩) (.inl (.inl rfl)) (.string ⟨#[]⟩)).setCell (p := ⟨w.heap.size + 1, 7, none⟩) (.inl (.inl rfl)) (.slice none 0 0))
  have q1 : (k == 1) = false := by simpa using k1
  by_cases k2 : k = 2
  · subst k2
    go_wp2_with fail
    rw [← hW0]
    have HN := notice_c W0 2 s b r
    rw [HS.out] at HN
    refine HN.mono ?_
    rintro e w1 ⟨g, rfl, G1, E1, hg⟩
    have FZ := FY.out.turn (Y := fun b => (X b ∨ b = w.heap.size ∨ b = w.heap.size + 1 ∨ b = w.heap.size + 1 + 1) ∨ b = g) E1 (fun _ g => g.elim) (fun b hb => by
      rcases hb with hb | hb
      · exact ⟨.inl hb, Nat.lt_of_lt_of_le (FY.out.lt hb) E1.size⟩
      · exact ⟨.inr (by omega), by rw [hb]; exact G1.lt⟩)
    have HPV := push_v FZ ⟨77, 0, b, r, .slice (some ⟨g, 0, none⟩) 1 1⟩ (.inr ⟨g, [107], r, false, rfl, by rw [HS.out]; exact G1⟩) (fun b hb => .inr (by have : some g = some b := hb; exact (Option.some.inj this).symm))
    rw [show (Ntc.mk 77 0 b r (.slice (some ⟨g, 0, none⟩) 1 1)).cells.toArray = #[.int .i64 77, .int .i64 0, .int .i64 b, .string S, .slice (some ⟨g, 0, none⟩) 1 1] from by simp [Ntc.cells, HS.out]] at HPV
    have HPV' := Lib.hid HPV
    have HE1 := Lib.hid E1
    clear HN HPV FZ G1 E1
    go_wp2_with fail
    refine HPV'.out.mono ?_
    rintro e w' ⟨a, c, rfl, F1', K1', _, _⟩
    have F1 : FV (fun b => X b ∨ b = w.heap.size ∨ b = w.heap.size + 1 ∨ b = w.heap.size + 1 + 1) w' bf bm room (pushA room (77, 0, b, r) A) := F1'.turn (Keeps.refl (fun _ => False) w') (fun _ g => g.elim) (fun b hb => ⟨.inl (.inl (.inl hb)), F1'.lt (.inl (.inl hb))⟩)
    have K1 : Keeps (fun b => ¬ (X b ∨ b = w.heap.size ∨ b = w.heap.size + 1 ∨ b = w.heap.size + 1 + 1)) W0 w' := (HE1.out.mono (fun _ _ g => g.elim)).trans' K1' (fun x _ hx hX => hx (.inl hX))
    clear F1' K1'
    obtain ⟨L, hL⟩ : ∃ L, L = (lagged room A (orderV A)).length := ⟨_, rfl⟩
    rw [← hL]
    clear hL
    have T := BT.keeps K1 (fun e => e (.inr (.inr (.inr rfl))))
    have R := BR.keeps K1 (fun e => e (.inr (.inr (.inl rfl))))
    have t0 := T.cell (i := 0) (v := .bool false) (by rfl)
    have t1 := T.cell (i := 1) (v := .int .i64 0) (by rfl)
    have t2 := T.cell (i := 2) (v := .slice none 0 0) (by rfl)
    have t3 := T.cell (i := 3) (v := .int .i64 0) (by rfl)
    have t4 := T.cell (i := 4) (v := .int .i64 0) (by rfl)
    have t5 := T.cell (i := 5) (v := .int .i64 0) (by rfl)
    have t6 := T.cell (i := 6) (v := .string ⟨#[]⟩) (by rfl)
    have t7 := T.cell (i := 7) (v := .slice none 0 0) (by rfl)
    have tf : ∀ i, w'.frozen? ⟨w.heap.size + 1 + 1, i, none⟩ = false := fun i => T.frozen
    have r0 := R.cell (i := 0) (v := .bool false) (by rfl)
    have r1 := R.cell (i := 1) (v := .int .i64 0) (by rfl)
    have r2 := R.cell (i := 2) (v := .slice none 0 0) (by rfl)
    have r3 := R.cell (i := 3) (v := .int .i64 0) (by rfl)
    have r4 := R.cell (i := 4) (v := .int .i64 0) (by rfl)
    have r5 := R.cell (i := 5) (v := .int .i64 0) (by rfl)
    have r6 := R.cell (i := 6) (v := .string ⟨#[]⟩) (by rfl)
    have r7 := R.cell (i := 7) (v := .slice none 0 0) (by rfl)
    have rf : ∀ i, w'.frozen? ⟨w.heap.size + 1, i, none⟩ = false := fun i => R.frozen
    have HF1 := Lib.hid F1
    have HK1 := Lib.hid K1
    clear F1 K1 T R E0 BA BR BT h S0
    go_wp2
    refine bodyPost_ret (v := .agg #[.bool false, .int .i64 0, .slice a L c, .int .i64 0, .int .i64 0, .int .i64 0, .string ⟨#[]⟩, .slice none 0 0]) (by simp [results, Try.results9, go_sem, r0, r1, r2, r3, r4, r5, r6, r7, rf]) rfl ⟨⟨_, rfl⟩, ?_⟩
    rw [show doA room A 2 s b r = pushA room (77, 0, b, r) A from by simp [doA]]
    exact HFIN.out w' _ _ HF1.out HK1.out ((((((((((Keeps.refl (fun b => b = w.heap.size + 1 ∨ b = w.heap.size + 1 + 1) w').setCell (p := ⟨w.heap.size + 1 + 1, 2, none⟩) (.inl (.inr rfl)) (.slice a L c)).setCell (p := ⟨w.heap.size + 1, 0, none⟩) (.inl (.inl rfl)) (.bool false)).setCell (p := ⟨w.heap.size + 1, 1, none⟩) (.inl (.inl rfl)) (.int .i64 0)).setCell (p := ⟨w.heap.size + 1, 2, none⟩) (.inl (.inl rfl)) (.slice a L c)).setCell (p := ⟨w.heap.size + 1, 3, none⟩) (.inl (.inl rfl)) (.int .i64 0)).setCell (p := ⟨w.heap.size + 1, 4, none⟩) (.inl (.inl rfl)) (.int .i64 0)).setCell (p := ⟨w.heap.size + 1, 5, none⟩) (.inl (.inl rfl)) (.int .i64 0)).setCell (p := ⟨w.heap.size + 1, 6, none⟩) (.inl (.inl rfl)) (.string ⟨#[]⟩)).setCell (p := ⟨w.heap.size + 1, 7, none⟩) (.inl (.inl rfl)) (.slice none 0 0))
  have q2 : (k == 2) = false := by simpa using k2
  by_cases k3 : k = 3
  · subst k3
    go_wp2_with fail
    rw [← hW0]
    refine (pop_v FY.out s).mono ?_
    rintro e w' ⟨⟨⟨ses, err, blk, root, chg⟩, rfl, hone, _⟩, F1, K1⟩
    simp only [Ntc.cells]
    have T := BT.keeps K1 (fun e => e (.inr (.inr (.inr rfl))))
    have R := BR.keeps K1 (fun e => e (.inr (.inr (.inl rfl))))
    have t0 := T.cell (i := 0) (v := .bool false) (by rfl)
    have t1 := T.cell (i := 1) (v := .int .i64 0) (by rfl)
    have t2 := T.cell (i := 2) (v := .slice none 0 0) (by rfl)
    have t3 := T.cell (i := 3) (v := .int .i64 0) (by rfl)
    have t4 := T.cell (i := 4) (v := .int .i64 0) (by rfl)
    have t5 := T.cell (i := 5) (v := .int .i64 0) (by rfl)
    have t6 := T.cell (i := 6) (v := .string ⟨#[]⟩) (by rfl)
    have t7 := T.cell (i := 7) (v := .slice none 0 0) (by rfl)
    have tf : ∀ i, w'.frozen? ⟨w.heap.size + 1 + 1, i, none⟩ = false := fun i => T.frozen
    have r0 := R.cell (i := 0) (v := .bool false) (by rfl)
    have r1 := R.cell (i := 1) (v := .int .i64 0) (by rfl)
    have r2 := R.cell (i := 2) (v := .slice none 0 0) (by rfl)
    have r3 := R.cell (i := 3) (v := .int .i64 0) (by rfl)
    have r4 := R.cell (i := 4) (v := .int .i64 0) (by rfl)
    have r5 := R.cell (i := 5) (v := .int .i64 0) (by rfl)
    have r6 := R.cell (i := 6) (v := .string ⟨#[]⟩) (by rfl)
    have r7 := R.cell (i := 7) (v := .slice none 0 0) (by rfl)
    have rf : ∀ i, w'.frozen? ⟨w.heap.size + 1, i, none⟩ = false := fun i => R.frozen
    have HF1 := Lib.hid F1
    have HK1 := Lib.hid K1
    have st3 := fun a W => run_store Try.prog W a (str root) .plain rfl
    have st4 := fun a W => run_store Try.prog W a chg .plain hone
    clear F1 K1 T R E0 BA BR BT h S0
    go_wp2
    refine bodyPost_ret (v := .agg #[.bool (headA A s).isSome, .int .i64 0, .slice none 0 0, .int .i64 ses, .int .i64 err, .int .i64 blk, str root, chg]) (by simp [results, Try.results9, go_sem, r0, r1, r2, r3, r4, r5, r6, r7, rf]) rfl ⟨⟨_, rfl⟩, ?_⟩
    rw [show doA room A 3 s b r = popA A s from by simp [doA]]
    exact HFIN.out w' _ _ HF1.out HK1.out (((((((((((((((Keeps.refl (fun b => b = w.heap.size + 1 ∨ b = w.heap.size + 1 + 1) w').setCell (p := ⟨w.heap.size + 1 + 1, 3, none⟩) (.inl (.inr rfl)) (.int .i64 ses)).setCell (p := ⟨w.heap.size + 1 + 1, 4, none⟩) (.inl (.inr rfl)) (.int .i64 err)).setCell (p := ⟨w.heap.size + 1 + 1, 5, none⟩) (.inl (.inr rfl)) (.int .i64 blk)).setCell (p := ⟨w.heap.size + 1 + 1, 6, none⟩) (.inl (.inr rfl)) (str root)).setCell (p := ⟨w.heap.size + 1 + 1, 7, none⟩) (.inl (.inr rfl)) (chg)).setCell (p := ⟨w.heap.size + 1 + 1, 0, none⟩) (.inl (.inr rfl)) (.bool (headA A s).isSome)).setCell (p := ⟨w.heap.size + 1, 0, none⟩) (.inl (.inl rfl)) (.bool (headA A s).isSome)).setCell (p := ⟨w.heap.size + 1, 1, none⟩) (.inl (.inl rfl)) (.int .i64 0)).setCell (p := ⟨w.heap.size + 1, 2, none⟩) (.inl (.inl rfl)) (.slice none 0 0)).setCell (p := ⟨w.heap.size + 1, 3, none⟩) (.inl (.inl rfl)) (.int .i64 ses)).setCell (p := ⟨w.heap.size + 1, 4, none⟩) (.inl (.inl rfl)) (.int .i64 err)).setCell (p := ⟨w.heap.size + 1, 5, none⟩) (.inl (.inl rfl)) (.int .i64 blk)).setCell (p := ⟨w.heap.size + 1, 6, none⟩) (.inl (.inl rfl)) (str root)).setCell (p := ⟨w.heap.size + 1, 7, none⟩) (.inl (.inl rfl)) (chg))
  have q3 : (k == 3) = false := by simpa using k3
  go_wp2_with fail
  rw [← hW0]
  refine (forget_v FY.out s).mono ?_
  rintro e w' ⟨rfl, F1, K1⟩
  have T := BT.keeps K1 (fun e => e (.inr (.inr (.inr rfl))))
  have R := BR.keeps K1 (fun e => e (.inr (.inr (.inl rfl))))
  have t0 := T.cell (i := 0) (v := .bool false) (by rfl)
  have t1 := T.cell (i := 1) (v := .int .i64 0) (by rfl)
  have t2 := T.cell (i := 2) (v := .slice none 0 0) (by rfl)
  have t3 := T.cell (i := 3) (v := .int .i64 0) (by rfl)
  have t4 := T.cell (i := 4) (v := .int .i64 0) (by rfl)
  have t5 := T.cell (i := 5) (v := .int .i64 0) (by rfl)
  have t6 := T.cell (i := 6) (v := .string ⟨#[]⟩) (by rfl)
  have t7 := T.cell (i := 7) (v := .slice none 0 0) (by rfl)
  have tf : ∀ i, w'.frozen? ⟨w.heap.size + 1 + 1, i, none⟩ = false := fun i => T.frozen
  have r0 := R.cell (i := 0) (v := .bool false) (by rfl)
  have r1 := R.cell (i := 1) (v := .int .i64 0) (by rfl)
  have r2 := R.cell (i := 2) (v := .slice none 0 0) (by rfl)
  have r3 := R.cell (i := 3) (v := .int .i64 0) (by rfl)
  have r4 := R.cell (i := 4) (v := .int .i64 0) (by rfl)
  have r5 := R.cell (i := 5) (v := .int .i64 0) (by rfl)
  have r6 := R.cell (i := 6) (v := .string ⟨#[]⟩) (by rfl)
  have r7 := R.cell (i := 7) (v := .slice none 0 0) (by rfl)
  have rf : ∀ i, w'.frozen? ⟨w.heap.size + 1, i, none⟩ = false := fun i => R.frozen
  have HF1 := Lib.hid F1
  have HK1 := Lib.hid K1
  clear F1 K1 T R E0 BA BR BT h S0
  go_wp2
  refine bodyPost_ret (v := .agg #[.bool false, .int .i64 (waitsV A s), .slice none 0 0, .int .i64 0, .int .i64 0, .int .i64 0, .string ⟨#[]⟩, .slice none 0 0]) (by simp [results, Try.results9, go_sem, r0, r1, r2, r3, r4, r5, r6, r7, rf]) rfl ⟨⟨_, rfl⟩, ?_⟩
  rw [show doA room A k s b r = remA A s from by simp [doA, k0, k1, k2, k3]]
  exact HFIN.out w' _ _ HF1.out HK1.out ((((((((((Keeps.refl (fun b => b = w.heap.size + 1 ∨ b = w.heap.size + 1 + 1) w').setCell (p := ⟨w.heap.size + 1 + 1, 1, none⟩) (.inl (.inr rfl)) (.int .i64 (waitsV A s))).setCell (p := ⟨w.heap.size + 1, 0, none⟩) (.inl (.inl rfl)) (.bool false)).setCell (p := ⟨w.heap.size + 1, 1, none⟩) (.inl (.inl rfl)) (.int .i64 (waitsV A s))).setCell (p := ⟨w.heap.size + 1, 2, none⟩) (.inl (.inl rfl)) (.slice none 0 0)).setCell (p := ⟨w.heap.size + 1, 3, none⟩) (.inl (.inl rfl)) (.int .i64 0)).setCell (p := ⟨w.heap.size + 1, 4, none⟩) (.inl (.inl rfl)) (.int .i64 0)).setCell (p := ⟨w.heap.size + 1, 5, none⟩) (.inl (.inl rfl)) (.int .i64 0)).setCell (p := ⟨w.heap.size + 1, 6, none⟩) (.inl (.inl rfl)) (.string ⟨#[]⟩)).setCell (p := ⟨w.heap.size + 1, 7, none⟩) (.inl (.inl rfl)) (.slice none 0 0))
end Go.Proofs.Ytdempgabidbjfaa
