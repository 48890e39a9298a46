/- Parts of the proof, one behind the other: Iter. Each is under no condition but those that it states. -/
import Derived.Test.YtjogjmffkmfmbaaGreatDoorPc1
import Derived.Sort.QuietIn
/- A range over a function, as a law over any program: the iterator's contract, the loop's body, what follows. -/
namespace Go.Proofs.YtjogjmffkmfmbaaGreatDoor
section
open Go Go.RowKit
set_option linter.unusedSimpArgs false
set_option linter.unusedVariables false

/-- A predicate that rests on the blocks of its set alone. -/
structure Supp (C : BSet → World → Prop) : Prop where
  lt : ∀ D W, C D W → ∀ b, D b → b < W.heap.size
  st : ∀ D W W', C D W → W.heap.size ≤ W'.heap.size → (∀ b, D b → W'.heap[b]? = W.heap[b]?) → C D W'

theorem Supp.keeps {C : BSet → World → Prop} (h : Supp C) {D F : BSet} {W W' : World} (hc : C D W) (k : Keeps F W W') (hd : ∀ b, D b → ¬ F b) : C D W' :=
  h.st D W W' hc k.size fun b hb => k.block b (h.lt D W hc b hb) (hd b hb)

def noDefer (ops : Array Oper) : Bool := ops.toList.all fun o => match o.op with | .defer _ => false | _ => true

theorem fold2 (p q : Tmp) (x y : Value) (t : List Value) : (#[p, q].zip #[x, y]).foldl (fun t (p, v) => t.setIfInBounds p v) t.toArray = ((t.set p x).set q y).toArray := by simp
end
end Go.Proofs.YtjogjmffkmfmbaaGreatDoor
