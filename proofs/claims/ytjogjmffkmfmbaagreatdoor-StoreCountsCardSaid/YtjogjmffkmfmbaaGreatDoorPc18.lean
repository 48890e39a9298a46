/- Parts of the proof, one behind the other: CanonA, MixD, CanonB, CanonC, CanonD, CanonE, CanonF, CanonG. Each is under no condition but those that it states. -/
import Derived.Test.YtjogjmffkmfmbaaGreatDoorPc17
import Derived.Test.YtjogjmffkmfmbaaGreatDoorPc16
import Derived.Test.YtjogjmffkmfmbaaGreatDoorPc7
import Derived.Test.YtjogjmffkmfmbaaGreatDoorPc3
import Derived.Laws.Cover1
/- canon: keyed, valued, Check. -/
namespace Go.Proofs.YtjogjmffkmfmbaaGreatDoor
section
open Go Go.RowKit
set_option linter.unusedSimpArgs false
set_option linter.unusedVariables false
abbrev Pair := ByteArray × ByteArray
theorem ba_empty {s : ByteArray} (h : s.size = 0) : s = ⟨#[]⟩ := by
  obtain ⟨⟨l⟩⟩ := s
  cases l with
  | nil => rfl
  | cons x y => exact absurd h (Nat.succ_ne_zero _)
/-- A slice of pairs of texts that is read. -/
def RdP (w : World) (v : Value) (xs : List Pair) : Prop :=
  (∃ a c, v = .slice a 0 c ∧ xs = []) ∨ ∃ b o c, v = .slice (some ⟨b, o, none⟩) xs.length c ∧ b < w.heap.size ∧ xs.length ≤ c ∧ ∀ (j : Nat) x, xs[j]? = some x → w.cell? ⟨b, o + j * 2, none⟩ = some (.string x.1) ∧ w.cell? ⟨b, o + j * 2 + 1, none⟩ = some (.string x.2)
theorem RdP.ext {w w' : World} {v : Value} {xs : List Pair} (h : RdP w v xs) (k : Ext w w') : RdP w' v xs := by
  rcases h with h | ⟨b, o, c, h1, h2, h3, h4⟩
  · exact .inl h
  · exact .inr ⟨b, o, c, h1, Nat.lt_of_lt_of_le h2 k.size, h3, fun j x hx => ⟨cell_ext (h4 j x hx).1 k, cell_ext (h4 j x hx).2 k⟩⟩
theorem RdP.sl {w : World} {v : Value} {xs : List Pair} (h : RdP w v xs) : ∃ a c, v = .slice a xs.length c := by
  rcases h with ⟨a, c, h1, h2⟩ | ⟨b, o, c, h1, _⟩
  · exact ⟨a, c, by rw [h1, h2]; rfl⟩
  · exact ⟨_, c, h1⟩
def Pair.V (p : Pair) : Value := .agg #[.string p.1, .string p.2]
end
end Go.Proofs.YtjogjmffkmfmbaaGreatDoor
/- The law for regions that draw their order: E is what quiet operations keep, D (weaker) what all keep; what is known along D stays known. Over any program. -/
namespace Go.Proofs.YtjogjmffkmfmbaaGreatDoor
section
open Go Go.RowKit
set_option linter.unusedSimpArgs false
set_option linter.unusedVariables false

section mixd
variable {P : Program} {l : List Oper} {E D : World → World → Prop}
def YieldsD (P : Program) (ops : Array Oper) (E D : World → World → Prop) (w : World) (o : Oper) (v : Value) (a : Act) : Prop :=
  (Region.wanted o (yielded ops a.tmps) = true ∧ ∀ w1, D w w1 → qUpon P E w1 v ((execOp a.eval o).run P w1)) ∨ (Region.wanted o (yielded ops a.tmps) = false ∧ v = undef)
theorem YieldsD.of_same {ops : Array Oper} {w : World} {o : Oper} {v : Value} {a a' : Act} (hy : YieldsD P ops E D w o v a) (he : execOp a'.eval o = execOp a.eval o)
    (hw : Region.wanted o (yielded ops a'.tmps) = Region.wanted o (yielded ops a.tmps)) : YieldsD P ops E D w o v a' := by
  unfold YieldsD at *; rw [he, hw]; exact hy
theorem YieldsD.st (hT : ∀ x y z, D x y → D y z → D x z) {ops : Array Oper} {w w1 : World} {o : Oper} {v : Value} {a : Act} (hy : YieldsD P ops E D w o v a) (h : D w w1) : YieldsD P ops E D w1 o v a :=
  hy.imp (fun ⟨h1, h2⟩ => ⟨h1, fun w2 h' => h2 w2 (hT _ _ _ h h')⟩) id
theorem YieldsD.wpOp {ops : Array Oper} {i : Nat} {o : Oper} {v : Value} {a : Act} {w : World} (hi : ops[i]? = some o) (hy : YieldsD P ops E D w o v a) {K : Act → World → Prop} {w1 : World} (h1 : D w w1) (hE : ∀ w, E w w)
    (h : ∀ w', E w1 w' → K (a.put o.dst v) w') : wpOp P ops NoQ i K a w1 := by
  unfold Go.wpOp
  simp only [hi]
  rcases hy with ⟨hw, hv⟩ | ⟨hw, rfl⟩
  · simp only [hw, if_true]
    refine .inl ?_
    have h3 := hv w1 h1
    unfold Oper.wp
    generalize (execOp a.eval o).run P w1 = r at *
    cases r with
    | ok n w' =>
      cases n <;> simp only [qUpon] at h3 <;> simp only [Oper.upon]
      case value u => obtain ⟨e1, e2⟩ := h3; rw [e1, e2]; exact h _ (hE w1)
      case skip => obtain ⟨e1, e2⟩ := h3; rw [e1, ← e2]; exact h _ (hE w1)
      case enter f args =>
        obtain ⟨e1, hcc⟩ := h3; rw [e1]
        exact hcc.mono fun e w'' ⟨he, h1⟩ => by subst he; exact h _ h1
    | halt x w' => simp only [qUpon] at h3
  · simp only [hw, Bool.false_eq_true, if_false]; exact h _ (hE w1)

variable {Q : Act → World → Prop} {ord done hd : List Nat} {a : Act} {w : World} {k : Nat} {o : Oper}
def headD (l : List Oper) (done : List Nat) (k : Nat) : Bool := (Region.ready .any l.toArray (marks l done)).contains k && Region.free .any l.toArray (marks l done) k
end mixd
end
end Go.Proofs.YtjogjmffkmfmbaaGreatDoor
/- canon: rows, without. -/
namespace Go.Proofs.YtjogjmffkmfmbaaGreatDoor
section
open Go Go.RowKit
set_option linter.unusedSimpArgs false
set_option linter.unusedVariables false
def cellsP (xs : List Pair) : List Value := xs.flatMap fun p => [.string p.1, .string p.2]
theorem cellsP_len (xs : List Pair) : (cellsP xs).length = xs.length * 2 := by
  induction xs with
  | nil => rfl
  | cons x r ih => unfold cellsP at *; rw [List.flatMap_cons, List.length_append, ih]; simp; omega
theorem cellsP_get : ∀ (xs : List Pair) (j : Nat) (p : Pair), xs[j]? = some p → (cellsP xs)[j * 2]? = some (.string p.1) ∧ (cellsP xs)[j * 2 + 1]? = some (.string p.2)
  | [], j, p, h => by simp at h
  | x :: r, 0, p, h => by simp at h; subst h; exact ⟨rfl, rfl⟩
  | x :: r, j + 1, p, h => by
    have := cellsP_get r j p (by simpa using h)
    rw [show (j + 1) * 2 = j * 2 + 1 + 1 by omega]
    exact this
abbrev PRow (w0 w : World) (v : Value) (n : Nat) (xs : List Pair) : Prop := ORow 188 2 w0 w v n (cellsP xs)
theorem PRow.rd {w0 w : World} {v : Value} {n : Nat} {xs : List Pair} (h : PRow w0 w v n xs) : RdP w v xs := by
  have hl : xs.length = n := by have := h.len; rw [cellsP_len] at this; omega
  obtain ⟨_, ⟨rfl, h2⟩ | ⟨g, cap, cur, rfl, h3, h4, h5, h6, h7⟩⟩ := h.own
  · exact .inl ⟨none, 0, rfl, List.eq_nil_of_length_eq_zero (by omega)⟩
  · subst hl
    refine .inr ⟨g, 0, cap, rfl, (Array.getElem?_eq_some_iff.1 h4).1, h5, fun j x hx => ?_⟩
    have hj := (List.getElem?_eq_some_iff.1 hx).1
    obtain ⟨e1, e2⟩ := cellsP_get xs j x hx
    exact ⟨by rw [Nat.zero_add, h.own.cellAt (j * 2) (by omega), e1], by rw [Nat.zero_add, h.own.cellAt (j * 2 + 1) (by omega), e2]⟩
end
end Go.Proofs.YtjogjmffkmfmbaaGreatDoor
/- canon: cut, by its closure. -/
namespace Go.Proofs.YtjogjmffkmfmbaaGreatDoor
section
open Go Go.RowKit
set_option linter.unusedSimpArgs false
set_option linter.unusedVariables false
end
end Go.Proofs.YtjogjmffkmfmbaaGreatDoor
/- canon: parts in memory. -/
namespace Go.Proofs.YtjogjmffkmfmbaaGreatDoor
section
open Go Go.RowKit
set_option linter.unusedSimpArgs false
set_option linter.unusedVariables false
/-- append of nothing. -/
theorem run_append_zero {P : Program} {t e ty : TypeId} {i : TypeInfo} (ht : P.underlying t = some (.slice e)) (hi : P.info? e = some i) (base : Option Addr) (n c : Nat) (hle : n ≤ c) (c2 : Nat) (w : World) :
    (Builtin.append_ #[t, t] ty #[.slice base n c, .slice none 0 c2]).run P w = .ok (.slice base n c) w := by
  have hs : (sizeOf e).run P w = .ok i.size w := by simp [sizeOf, typeInfo, hi]
  have hl : ∀ w, (Builtin.lenOf (.slice none 0 c2)).run P w = .ok 0 w := fun w => rfl
  cases base <;> simp [Builtin.append_, Sem.run_bind, Result.andThen, run_underlying ht, hs, hl, Sem.run_pure, Builtin.firstCells, hle, storeCells]
/-- A part: its text, and what it refers to by hashes. -/
inductive PT where
  | mk (text : ByteArray) (below : List PT)
def PT.text : PT → ByteArray | .mk t _ => t
def PT.kids : PT → List PT | .mk _ ks => ks
def ptrV (b : Nat) : Value := .pointer (some ⟨b, 0, none⟩)
/-- A slice of pointers that is read; A: which blocks are its own. -/
def RdQ (A : Nat → Prop) (W : World) (v : Value) (bs : List Nat) : Prop :=
  (v = .slice none 0 0 ∧ bs = []) ∨ ∃ g c, v = .slice (some ⟨g, 0, none⟩) bs.length c ∧ bs ≠ [] ∧ A g ∧ g < W.heap.size ∧ bs.length ≤ c ∧ ∀ (j : Nat) b, bs[j]? = some b → W.cell? ⟨g, j, none⟩ = some (ptrV b)
mutual
def PartAt (A : Nat → Prop) : PT → Nat → World → Prop
  | .mk t ks, b, W => A b ∧ ∃ v bs, Blk W b (.cells #[.string t, v] 179) ∧ RdQ A W v bs ∧ PartsAt A ks bs W
def PartsAt (A : Nat → Prop) : List PT → List Nat → World → Prop
  | [], bs, _ => bs = []
  | k :: ks, bs, W => ∃ b r, bs = b :: r ∧ PartAt A k b W ∧ PartsAt A ks r W
end
theorem RdQ.keeps {A : Nat → Prop} {F : BSet} {W W' : World} {v : Value} {bs : List Nat} (h : RdQ A W v bs) (k : Keeps F W W') (hF : ∀ x, A x → ¬ F x) : RdQ A W' v bs := by
  rcases h with h | ⟨g, c, h1, h2, h3, h4, h5, h6⟩
  · exact .inl h
  · exact .inr ⟨g, c, h1, h2, h3, Nat.lt_of_lt_of_le h4 k.size, h5, fun j b hb => cell_keeps (h6 j b hb) k (hF g h3)⟩
theorem RdQ.mono {A A' : Nat → Prop} {W : World} {v : Value} {bs : List Nat} (h : RdQ A W v bs) (hA : ∀ x, A x → x < W.heap.size → A' x) : RdQ A' W v bs := by
  rcases h with h | ⟨g, c, h1, h2, h3, h4, h5, h6⟩
  · exact .inl h
  · exact .inr ⟨g, c, h1, h2, hA g h3 h4, h4, h5, h6⟩
mutual
theorem PartAt.keeps {A : Nat → Prop} {F : BSet} {W W' : World} (k : Keeps F W W') (hF : ∀ x, A x → ¬ F x) : ∀ (T : PT) (b : Nat), PartAt A T b W → PartAt A T b W'
  | .mk t ks, b, h => by
    unfold PartAt at *
    obtain ⟨h1, v, bs, h2, h3, h4⟩ := h
    exact ⟨h1, v, bs, h2.keeps k (hF b h1), h3.keeps k hF, PartsAt.keeps k hF ks bs h4⟩
theorem PartsAt.keeps {A : Nat → Prop} {F : BSet} {W W' : World} (k : Keeps F W W') (hF : ∀ x, A x → ¬ F x) : ∀ (ks : List PT) (bs : List Nat), PartsAt A ks bs W → PartsAt A ks bs W'
  | [], bs, h => by unfold PartsAt at *; exact h
  | x :: ks, bs, h => by
    unfold PartsAt at *
    obtain ⟨b, r, h1, h2, h3⟩ := h
    exact ⟨b, r, h1, PartAt.keeps k hF x b h2, PartsAt.keeps k hF ks r h3⟩
end
mutual
theorem PartAt.mono {A A' : Nat → Prop} {W : World} (hA : ∀ x, A x → x < W.heap.size → A' x) : ∀ (T : PT) (b : Nat), PartAt A T b W → PartAt A' T b W
  | .mk t ks, b, h => by
    unfold PartAt at *
    obtain ⟨h1, v, bs, h2, h3, h4⟩ := h
    exact ⟨hA b h1 h2.lt, v, bs, h2, h3.mono hA, PartsAt.mono hA ks bs h4⟩
theorem PartsAt.mono {A A' : Nat → Prop} {W : World} (hA : ∀ x, A x → x < W.heap.size → A' x) : ∀ (ks : List PT) (bs : List Nat), PartsAt A ks bs W → PartsAt A' ks bs W
  | [], bs, h => by unfold PartsAt at *; exact h
  | x :: ks, bs, h => by
    unfold PartsAt at *
    obtain ⟨b, r, h1, h2, h3⟩ := h
    exact ⟨b, r, h1, PartAt.mono hA x b h2, PartsAt.mono hA ks r h3⟩
end
theorem PartsAt.append {A : Nat → Prop} {W : World} : ∀ (ks : List PT) (bs : List Nat) (ks' : List PT) (bs' : List Nat), PartsAt A ks bs W → PartsAt A ks' bs' W → PartsAt A (ks ++ ks') (bs ++ bs') W
  | [], bs, ks', bs', h, h' => by unfold PartsAt at h; subst h; exact h'
  | x :: ks, bs, ks', bs', h, h' => by
    unfold PartsAt at h
    obtain ⟨b, r, rfl, h2, h3⟩ := h
    show PartsAt A (x :: (ks ++ ks')) (b :: (r ++ bs')) W
    unfold PartsAt
    exact ⟨b, r ++ bs', rfl, h2, PartsAt.append ks r ks' bs' h3 h'⟩
theorem PartAt.lt {A : Nat → Prop} {W : World} : ∀ {T : PT} {b : Nat}, PartAt A T b W → b < W.heap.size
  | .mk _ _, _, h => by unfold PartAt at h; obtain ⟨_, v, bs, h2, _⟩ := h; exact h2.lt
abbrev QRow (w0 w : World) (v : Value) (bs : List Nat) : Prop := ORow 134 1 w0 w v bs.length (bs.map ptrV)
/-- A part that is being built; m: a block that is another one's. -/
structure HoldS (w0 W : World) (b m : Nat) (t : ByteArray) (ks : List PT) (u : Value) (bs : List Nat) : Prop where
  blk : Blk W b (.cells #[.string t, u] 179)
  new : w0.heap.size ≤ b
  row : QRow w0 W u bs
  nil : bs = [] → u = .slice none 0 0
  nb : ¬ u.ownBlock = some b
  bm : m ≠ b
  mb : ¬ u.ownBlock = some m
  mn : w0.heap.size ≤ m
  ml : m < W.heap.size
  ks : PartsAt (fun x => w0.heap.size ≤ x ∧ x ≠ b ∧ x ≠ m ∧ ¬ u.ownBlock = some x) ks bs W
theorem HoldS.ext {w0 W W' : World} {b m : Nat} {t : ByteArray} {ks : List PT} {u : Value} {bs : List Nat} (h : HoldS w0 W b m t ks u bs) (e : Ext W W') : HoldS w0 W' b m t ks u bs :=
  ⟨h.blk.keeps e (fun h => h), h.new, h.row.mono e, h.nil, h.nb, h.bm, h.mb, h.mn, Nat.lt_of_lt_of_le h.ml e.size, PartsAt.keeps e (fun _ _ h => h) _ _ h.ks⟩
/-- .. when it is built. -/
theorem HoldS.part {w0 W : World} {b m : Nat} {t : ByteArray} {ks : List PT} {u : Value} {bs : List Nat} (h : HoldS w0 W b m t ks u bs) : PartAt (fun x => w0.heap.size ≤ x) (.mk t ks) b W := by
  unfold PartAt
  refine ⟨h.new, u, bs, h.blk, ?_, PartsAt.mono (fun x hx _ => hx.1) _ _ h.ks⟩
  by_cases h0 : bs = []
  · exact .inl ⟨h.nil h0, h0⟩
  · obtain ⟨_, ⟨rfl, h2⟩ | ⟨g, cap, cur, rfl, h3, h4, h5, h6, h7⟩⟩ := h.row.own
    · exact absurd (List.eq_nil_of_length_eq_zero (by omega)) h0
    · refine .inr ⟨g, cap, rfl, h0, h.row.new g rfl, (Array.getElem?_eq_some_iff.1 h4).1, h5, fun j b hb => ?_⟩
      have hj := (List.getElem?_eq_some_iff.1 hb).1
      rw [h.row.own.cellAt j (by omega), List.getElem?_map, hb]; rfl
end
end Go.Proofs.YtjogjmffkmfmbaaGreatDoor
/- canon: hold. -/
namespace Go.Proofs.YtjogjmffkmfmbaaGreatDoor
section
open Go Go.RowKit
set_option linter.unusedSimpArgs false
set_option linter.unusedVariables false
theorem exec_append {P : Program} {a : Act} {w w' : World} {v : Value} {d : Option Tmp} {args : Array Operand} {ats : Array TypeId} {ty : TypeId} {pos : String} {af : Array Edge} {g : Option (Nat × Bool)} {vs : Array Value} (h : (Builtin.append_ ats ty vs).run P w = .ok v w') (hv : args.map a.eval = vs) :
    (execOp a.eval ⟨d, .call { callee := .builtin .append, args := args, argTypes := ats }, ty, pos, af, g⟩).run P w = .ok (.value v) w' := by
  subst hv
  simp [execOp, resolve, invoke, Go.builtin, Act.eval, Sem.run_bind, Result.andThen, Sem.run_pure, h]
/-- A part is appended. -/
theorem HoldS.add {w0 W w1 w2 : World} {b m : Nat} {t : ByteArray} {ks : List PT} {u u' : Value} {bs : List Nat} {k : Nat} {T : PT} (h : HoldS w0 W b m t ks u bs) (hk : PartAt (fun x => w1.heap.size ≤ x) T k W) (h1 : b < w1.heap.size) (h1m : m < w1.heap.size) (h2 : ∀ x, u.ownBlock = some x → x < w1.heap.size) (h3 : w0.heap.size ≤ w1.heap.size)
    (r1 : QRow w0 w2 u' (bs ++ [k])) (r2 : Keeps (fun x => u.ownBlock = some x) W w2) (r3 : u'.ownBlock = u.ownBlock ∨ ∀ x, u'.ownBlock = some x → W.heap.size ≤ x) :
    HoldS w0 (w2.setCell ⟨b, 1, none⟩ u') b m t (ks ++ [T]) u' (bs ++ [k]) := by
  have K : Keeps (fun x => x = b ∨ u.ownBlock = some x) W (w2.setCell ⟨b, 1, none⟩ u') := (r2.mono (fun x _ hx => .inr hx)).setCell (.inl (.inl rfl)) _
  have hlt := h.blk.lt
  have nb' : ¬ u'.ownBlock = some b := fun e => by
    rcases r3 with r3 | r3
    · exact h.nb (r3 ▸ e)
    · have := r3 b e; omega
  have hav : ∀ x, x < W.heap.size → ¬ u.ownBlock = some x → ¬ u'.ownBlock = some x := fun x hx hu e => by
    rcases r3 with r3 | r3
    · exact hu (r3 ▸ e)
    · have := r3 x e; omega
  refine ⟨?_, h.new, r1.keeps (Keeps.oneSet w2 ⟨b, 1, none⟩ u') (fun x hx e => nb' (by have e : x = b := e; rw [← e]; exact hx)) (fun x hx e => by have e : x = b := e; have := h.new; omega), fun e => absurd e (by simp), nb', h.bm, hav m h.ml h.mb, h.mn, Nat.lt_of_lt_of_le h.ml K.size, ?_⟩
  · have := (h.blk.keeps r2 h.nb).set_same (i := 1) u'
    exact this
  · refine PartsAt.append _ _ _ _ ?_ ?_
    · refine PartsAt.keeps K (fun x hx e => ?_) _ _ (PartsAt.mono (A' := fun x => w0.heap.size ≤ x ∧ x ≠ b ∧ ¬ u.ownBlock = some x ∧ x ≠ m ∧ ¬ u'.ownBlock = some x) (fun x hx hlt => ⟨hx.1, hx.2.1, hx.2.2.2, hx.2.2.1, hav x hlt hx.2.2.2⟩) _ _ h.ks) |> PartsAt.mono (fun x hx _ => ⟨hx.1, hx.2.1, hx.2.2.2.1, hx.2.2.2.2⟩) _ _
      rcases e with e | e
      · exact hx.2.1 e
      · exact hx.2.2.1 e
    · unfold PartsAt
      refine ⟨k, [], rfl, ?_, by unfold PartsAt; rfl⟩
      have hk1 : PartAt (fun x => w0.heap.size ≤ x ∧ x ≠ b ∧ ¬ u.ownBlock = some x ∧ x ≠ m ∧ ¬ u'.ownBlock = some x) T k W := PartAt.mono (fun x hx hlt => ⟨by omega, by omega, fun e => by have := h2 x e; omega, by omega, hav x hlt (fun e => by have := h2 x e; omega)⟩) _ _ hk
      refine PartAt.mono (fun x hx _ => ⟨hx.1, hx.2.1, hx.2.2.2.1, hx.2.2.2.2⟩) _ _ (PartAt.keeps K (fun x hx e => ?_) _ _ hk1)
      rcases e with e | e
      · exact hx.2.1 e
      · exact hx.2.2.1 e
theorem HoldS.same {w0 W : World} {b m : Nat} {t : ByteArray} {ks : List PT} {u : Value} {bs : List Nat} (h : HoldS w0 W b m t ks u bs) : HoldS w0 (W.setCell ⟨b, 1, none⟩ u) b m t ks u bs :=
  have K := Keeps.oneSet W ⟨b, 1, none⟩ u
  ⟨h.blk.set_same (i := 1) u, h.new, h.row.keeps K (fun x hx e => h.nb (by have e : x = b := e; rw [← e]; exact hx)) (fun x hx e => by have e : x = b := e; have := h.new; omega), h.nil, h.nb, h.bm, h.mb, h.mn, Nat.lt_of_lt_of_le h.ml K.size, PartsAt.keeps K (fun x hx e => hx.2.1 e) _ _ h.ks⟩
theorem PartAt.open {A : Nat → Prop} {T : PT} {b : Nat} {W : World} (h : PartAt A T b W) : A b ∧ ∃ v bs, Blk W b (.cells #[.string T.text, v] 179) ∧ RdQ A W v bs ∧ PartsAt A T.kids bs W := by
  cases T with
  | mk t ks => unfold PartAt at h; exact h
theorem RdQ.sl {A : Nat → Prop} {W : World} {v : Value} {bs : List Nat} (h : RdQ A W v bs) : ∃ a c, v = .slice a bs.length c := by
  rcases h with ⟨h1, h2⟩ | ⟨g, c, h1, _⟩
  · exact ⟨none, 0, by rw [h1, h2]; rfl⟩
  · exact ⟨_, c, h1⟩
end
end Go.Proofs.YtjogjmffkmfmbaaGreatDoor
/- canon, plain laws: the trie of rows, as a tree; its nodes may be. -/
namespace Go.Proofs.YtjogjmffkmfmbaaGreatDoor
section
open Go Go.RowKit
set_option linter.unusedSimpArgs false
set_option linter.unusedVariables false
abbrev Lt (a b : List UInt8) : Prop := Op.bytesLess a b = true
theorem lt_cons {a b : UInt8} {x y : List UInt8} : Lt (a :: x) (b :: y) ↔ a < b ∨ (a = b ∧ Lt x y) := by
  unfold Lt; rw [Op.bytesLess]; simp
theorem not_lt_nil (a : List UInt8) : ¬ Lt a [] := by
  unfold Lt; cases a <;> simp [Op.bytesLess]
theorem nil_lt {b : UInt8} {y : List UInt8} : Lt [] (b :: y) := rfl
theorem lt_irrefl : ∀ a : List UInt8, ¬ Lt a a
  | [], h => not_lt_nil _ h
  | a :: x, h => by
    rcases lt_cons.1 h with h | h
    · exact UInt8.lt_irrefl a h
    · exact lt_irrefl x h.2
abbrev Pair.l (p : Pair) : List UInt8 := p.1.data.toList
/-- Rows that rise, their paths no longer than f. -/
structure RowsOk (f : Nat) (l : List Pair) : Prop where
  size : ∀ p ∈ l, p.1.size ≤ f ∧ p.1.size ≤ 12 ∧ validN p.1 = true ∧ 0 < p.2.size ∧ p.2.size ≤ 80
  rise : l.Pairwise fun p q => Lt p.l q.l
theorem valid_ext {b : ByteArray} (h : validN b = true) (k n : Nat) : validN (b.extract k n) = true := by
  unfold validN at *
  rw [List.all_eq_true] at *
  intro x hx
  refine h x ?_
  rw [ByteArray.data_extract, Array.toList_extract, List.extract_eq_take_drop] at hx
  exact List.mem_of_mem_drop (List.mem_of_mem_take hx)
end
end Go.Proofs.YtjogjmffkmfmbaaGreatDoor
/- canon, plain laws: each node of the trie may be. -/
namespace Go.Proofs.YtjogjmffkmfmbaaGreatDoor
section
open Go Go.RowKit
set_option linter.unusedSimpArgs false
set_option linter.unusedVariables false
theorem RowsOk.mono {f g : Nat} {l : List Pair} (h : RowsOk f l) (hg : f ≤ g) : RowsOk g l := ⟨fun p hp => by obtain ⟨h1, h2⟩ := h.size p hp; exact ⟨by omega, h2⟩, h.rise⟩
theorem MayP.pos {f : Nat} {r : ByteArray} (h : MayP (InlD f) r) : r.size ≠ 0 := by
  rcases h with h | ⟨m, h⟩
  · rw [h.size]; omega
  · exact (inlP f).pos r m h
theorem catB_mem : ∀ (l : List ByteArray) (x : ByteArray), x ∈ l → x.size ≤ (catB l).size
  | y :: l, x, h => by
    rw [catB_cons]
    rcases List.mem_cons.1 h with rfl | h
    · omega
    · have := catB_mem l x h; omega
theorem listB_ge (xs : List ByteArray) : (catB xs).size ≤ (listB xs).size := by unfold listB; rw [ByteArray.size_append]; omega
end
end Go.Proofs.YtjogjmffkmfmbaaGreatDoor
