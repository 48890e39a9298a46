/- Parts of the proof, one behind the other: PrfM, Same2, MixF. Each is under no condition but those that it states. -/
import Derived.Test.YtjogjmffkmfmbaaGreatDoorPt33
import Derived.Test.YtjogjmffkmfmbaaGreatDoorPt38
import Derived.Test.YtjogjmffkmfmbaaGreatDoorPt21
import Derived.Test.YtjogjmffkmfmbaaGreatDoorPt16
/- law 11: Few; ProofSound. -/
namespace Go.Proofs.YtjogjmffkmfmbaaGreatDoor
section
open Go Go.RowKit
set_option linter.unusedSimpArgs false
set_option linter.unusedVariables false
attribute [local go_sem] Oper.semAt_some
end
end Go.Proofs.YtjogjmffkmfmbaaGreatDoor
/- reference 02: Same. -/
namespace Go.Proofs.YtjogjmffkmfmbaaGreatDoor
section
open Go Go.RowKit
set_option linter.unusedSimpArgs false
set_option linter.unusedVariables false
attribute [local go_sem] Oper.semAt_some
end
end Go.Proofs.YtjogjmffkmfmbaaGreatDoor
/- The law for regions that draw their order, where two hard operations may stand ready at once: a fork. Over any program. -/
namespace Go.Proofs.YtjogjmffkmfmbaaGreatDoor
section
open Go Go.RowKit
set_option linter.unusedSimpArgs false
set_option linter.unusedVariables false

section mixf
variable {P : Program} {l : List Oper} {E : World → World → Prop}

/-- The walk in an order of one's own up to a place where R takes over. -/
def MixJ (P : Program) (l : List Oper) (E : World → World → Prop) (R : List Nat → Act → World → Prop) : List Nat → List Nat → Act → World → Prop
  | [], done, a, w => R done a w
  | k :: ord, done, a, w =>
    (k ∈ Region.ready .any l.toArray (marks l done) ∧ Region.free .any l.toArray (marks l done) k = true ∧ ∃ o v, l[k]? = some o ∧ YieldsE P l.toArray E w o v a ∧ MixJ P l E R ord (k :: done) (a.put o.dst v) w) ∨
    (Region.ready .any l.toArray (marks l done) = [k] ∧ ∀ w1, E w w1 → wpOp P l.toArray NoQ k (fun a' w' => E w1 w' ∧ MixJ P l E R ord (k :: done) a' w') a w1)

theorem anyK_of_mixJ (hE : ∀ w, E w w) (hT : ∀ x y z, E x y → E y z → E x z) (hs : Region.noSelect l.toArray = true) {Q : Act → World → Prop} {R : List Nat → Act → World → Prop} {n : Nat} (hR : ∀ done a w, R done a w → anyK P l.toArray E Q n (marks l done) a w) : ∀ (ord : List Nat) (done : List Nat) (a : Act) (w : World),
    MixJ P l E R ord done a w → anyK P l.toArray E Q (n + ord.length) (marks l done) a w
  | [], _, _, _, h => hR _ _ _ h
  | k :: ord, done, a, w, h => by
    rcases h with ⟨hr, hf, o, v, ho, hy, h⟩ | ⟨hr, h⟩
    · have ho' : l.toArray[k]? = some o := by simpa using ho
      exact anyK_first hE hT ho' (Region.noSelect_spec hs) (n + ord.length) (marks l done) a w (Region.free_spec ho' hf) hr hy (anyK_of_mixJ hE hT hs hR ord _ _ _ h)
    · intro w1 he
      refine ⟨fun h0 => (by rw [hr] at h0; cases h0), fun i hi => ?_⟩
      rw [hr] at hi
      obtain rfl : i = k := by simpa using hi
      exact wpOp_mono (fun a' w' h2 => ⟨h2.1, anyK_of_mixJ hE hT hs hR ord (i :: done) a' w' h2.2⟩) (h w1 he)

/-- Whichever of those that are ready comes first, there is an order for the rest. -/
def Fork (P : Program) (l : List Oper) (E : World → World → Prop) (Q : Act → World → Prop) (m : Nat) (done : List Nat) (a : Act) (w : World) : Prop :=
  Region.ready .any l.toArray (marks l done) ≠ [] ∧ ∀ k ∈ Region.ready .any l.toArray (marks l done), ∀ w1, E w w1 →
    wpOp P l.toArray NoQ k (fun a' w' => E w1 w' ∧ ∃ ord, ord.length = m ∧ MixK P l E Q ord (k :: done) a' w') a w1

theorem anyK_of_fork (hE : ∀ w, E w w) (hT : ∀ x y z, E x y → E y z → E x z) (hs : Region.noSelect l.toArray = true) {Q : Act → World → Prop} {m : Nat} (done : List Nat) (a : Act) (w : World) (h : Fork P l E Q m done a w) :
    anyK P l.toArray E Q (m + 1) (marks l done) a w := by
  intro w1 he
  refine ⟨fun h0 => absurd h0 h.1, fun i hi => ?_⟩
  exact wpOp_mono (fun a' w' h2 => ⟨h2.1, by obtain ⟨ord, ho, h3⟩ := h2.2; have := anyK_of_mix hE hT hs ord (i :: done) a' w' h3; rw [ho] at this; exact this⟩) (h.2 i hi w1 he)

theorem wp_region_mixF (m : Nat) (ord : List Nat) (E : World → World → Prop) (hE : ∀ w, E w w) (hT : ∀ x y z, E x y → E y z → E x z) {id : Nat} {Q : Exit → Act → World → Prop} {a : Act} {w : World}
    (hm : P.follows .mixedOrders = true) (hs : Region.noSelect l.toArray = true) (hl : m + 1 + ord.length = l.toArray.size)
    (h : MixJ P l E (Fork P l E (fun a w => Q .normal a w) m) ord [] a w.drew) : (Code.region id l.toArray true).wp P Q a w := by
  refine wp_region_any hm ?_
  rw [← hl]
  have := anyK_of_mixJ hE hT hs (fun done a w hf => anyK_of_fork hE hT hs done a w hf) ord _ _ _ h
  unfold marks at this
  rw [hl] at this ⊢
  exact anyK_sound hE (fun _ _ h => h) _ _ _ _ this

def twoK (l : List Oper) (done : List Nat) (j k : Nat) : Bool := Region.ready .any l.toArray (marks l done) == [j, k]
theorem fork_two {Q : Act → World → Prop} {done : List Nat} {a : Act} {w : World} {m j k : Nat} (o1 o2 : Oper) (ord1 ord2 : List Nat) (hk : twoK l done j k = true) (h01 : l[j]? = some o1) (h02 : l[k]? = some o2) (hl1 : ord1.length = m) (hl2 : ord2.length = m)
    (hw1 : Region.wanted o1 (yielded l.toArray a.tmps) = true) (hw2 : Region.wanted o2 (yielded l.toArray a.tmps) = true)
    (h1 : ∀ w1, E w w1 → ∀ K : Act → World → Prop, (∀ a' w', E w1 w' → MixK P l E Q ord1 (j :: done) a' w' → K a' w') → o1.wp P a w1 K NoQ)
    (h2 : ∀ w1, E w w1 → ∀ K : Act → World → Prop, (∀ a' w', E w1 w' → MixK P l E Q ord2 (k :: done) a' w' → K a' w') → o2.wp P a w1 K NoQ) : Fork P l E Q m done a w := by
  simp only [twoK, beq_iff_eq] at hk
  unfold Fork
  rw [hk]
  refine ⟨by simp, fun i hi w1 he => ?_⟩
  have h01' : l.toArray[j]? = some o1 := by simpa using h01
  have h02' : l.toArray[k]? = some o2 := by simpa using h02
  have hi : i = j ∨ i = k := by simpa using hi
  unfold wpOp
  rcases hi with rfl | rfl
  · simp only [h01', hw1, if_true]
    exact .inl (h1 w1 he _ (fun a' w' e1 e2 => ⟨e1, ord1, hl1, e2⟩))
  · simp only [h02', hw2, if_true]
    exact .inl (h2 w1 he _ (fun a' w' e1 e2 => ⟨e1, ord2, hl2, e2⟩))

/-! The steps. -/
variable {R : List Nat → Act → World → Prop} {ord done : List Nat} {a : Act} {w : World} {k : Nat} {o : Oper}
theorem mixj_pure (o : Oper) (ho : l[k]? = some o) (hk : headK l done k = true) (hw : Region.wanted o (yielded l.toArray a.tmps) = true) (hq : isPure o.op = true)
    (h : ∀ K : Act → Prop, (∀ a', MixJ P l E R ord (k :: done) a' w → K a') → o.quiet P a (fun _ => True) K) : MixJ P l E R (k :: ord) done a w := by
  simp only [headK, Bool.and_eq_true, List.contains_iff_mem] at hk
  obtain ⟨v, h1, h2⟩ := h _ (fun _ h => h)
  have key : YieldsE P l.toArray E w o v a := by
    refine .inl ⟨hw, fun w1 _ => ?_⟩
    have h3 := h1 w1 trivial
    unfold Oper.quietAt at h3
    have h4 := fun f args w' => pure_no (ρ := a.eval) hq P w1 w' f args
    generalize (execOp a.eval o).run P w1 = r at *
    cases r with
    | ok n w' => cases n <;> simp only [Oper.quietUpon] at h3 <;> first | exact h3 | exact absurd rfl (h4 _ _ _)
    | halt x w' => simp only [Oper.quietUpon] at h3
  exact .inl ⟨hk.1, hk.2, o, v, ho, key, h2⟩

theorem mixj_val (o : Oper) (v : Value) (ho : l[k]? = some o) (hk : headK l done k = true) (hw : Region.wanted o (yielded l.toArray a.tmps) = true)
    (hv : ∀ w1, E w w1 → (execOp a.eval o).run P w1 = .ok (.value v) w1) (h : MixJ P l E R ord (k :: done) (a.put o.dst v) w) : MixJ P l E R (k :: ord) done a w := by
  simp only [headK, Bool.and_eq_true, List.contains_iff_mem] at hk
  exact .inl ⟨hk.1, hk.2, o, v, ho, .inl ⟨hw, fun w1 hc => by rw [hv w1 hc]; exact ⟨rfl, rfl⟩⟩, h⟩

theorem mixj_load (p : Addr) (v : Value) {t : TypeId} {x : Operand} {d : Option Tmp} {ty : TypeId} {pos : String} {af : Array Edge} {g : Option (Nat × Bool)} (ho : l[k]? = some ⟨d, .load t x, ty, pos, af, g⟩) (hk : headK l done k = true)
    (hw : Region.wanted ⟨d, .load t x, ty, pos, af, g⟩ (yielded l.toArray a.tmps) = true) (hx : a.eval x = .pointer (some p))
    (hv : ∀ w1, E w w1 → (Instr.loadAt t (.pointer (some p))).run P w1 = .ok v w1) (h : MixJ P l E R ord (k :: done) (a.put d v) w) : MixJ P l E R (k :: ord) done a w := by
  refine mixj_val _ v ho hk hw (fun w1 hc => ?_) h
  have := hv w1 hc
  simp only [execOp, hx, Sem.run_bind, this, Result.andThen, Sem.run_pure]

/-- R takes over. -/
theorem mixj_end (h : R done a w) : MixJ P l E R [] done a w := h
end mixf
end
end Go.Proofs.YtjogjmffkmfmbaaGreatDoor
