/- Parts of the proof, one behind the other: Iter. Each is under no condition but those that it states. -/
import Derived.Test.YtneojlgbcaejmaaGreatDoorBa1
import Derived.Sort.QuietIn
/- A range over a function, as a law over any program: the iterator's contract, the loop's body, what follows. -/
namespace Go.Proofs.YtneojlgbcaejmaaGreatDoor
section
open Go Go.RowKit
set_option linter.unusedSimpArgs false
set_option linter.unusedVariables false

/-- A predicate that rests on the blocks of its set alone. -/
structure Supp (C : BSet → World → Prop) : Prop where
  lt : ∀ D W, C D W → ∀ b, D b → b < W.heap.size
  st : ∀ D W W', C D W → W.heap.size ≤ W'.heap.size → (∀ b, D b → W'.heap[b]? = W.heap[b]?) → C D W'

theorem Supp.keeps {C : BSet → World → Prop} (h : Supp C) {D F : BSet} {W W' : World} (hc : C D W) (k : Keeps F W W') (hd : ∀ b, D b → ¬ F b) : C D W' :=
  h.st D W W' hc k.size fun b hb => k.block b (h.lt D W hc b hb) (hd b hb)

/-- What a call of yield owes to the iterator. -/
def YieldOwes (P : Program) (l : Nat) (args : Array Value) (D : BSet) (W : World) (Ct Cf : BSet → World → Prop) : Prop :=
  YieldAt Fence.wide 0 P l args W fun e W' => ∃ D' : BSet, Keeps D W W' ∧ (∀ b, D' b → D b ∨ W.heap.size ≤ b) ∧
    ((e = .returned (.bool true) ∧ Ct D' W') ∨ (e = .returned (.bool false) ∧ Cf D' W'))

/-- How an iterator leaves. -/
def IterPost (W : World) (M D O : BSet) (N : Nat) (C Cx SE : Nat → BSet → World → Prop) (e : Ending) (W' : World) : Prop :=
  (∃ v, e = .returned v) ∧ ∃ D' O' : BSet, Keeps (fun b => D b ∨ M b) W W' ∧ (∀ b, D' b → D b ∨ W.heap.size ≤ b) ∧ (∀ b, O' b → O b ∨ W.heap.size ≤ b) ∧ (∀ b, D' b → ¬ O' b) ∧
    ((C N D' W' ∧ SE N O' W') ∨ ∃ k, k ≤ N ∧ 0 < k ∧ Cx k D' W' ∧ SE k O' W')

/-- The iterator's contract: it hands the N values to yield one by one, until yield says no. S: what it rests on at the start; SE k: what it leaves behind k values. -/
def IterC (P : Program) (gf : FuncId) (lb : Array Value) (N : Nat) (vals : Nat → Array Value) (M : BSet) (S : BSet → World → Prop) (SE : Nat → BSet → World → Prop) : Prop :=
  ∀ (l : Nat) (C : Nat → BSet → World → Prop) (Cx : Nat → BSet → World → Prop), (∀ k, Supp (C k)) → (∀ k, Supp (Cx k)) →
    ∀ D O W, (∀ k D' W', k < N → C k D' W' → Keeps (fun b => D b ∨ M b) W W' → YieldOwes P l (vals k) D' W' (C (k + 1)) (Cx (k + 1))) →
      C 0 D W → S O W → (∀ b, D b → ¬ O b) →
      CallsIn Fence.wide 0 P gf (#[.func (.yield l) #[] #[]] ++ lb) W (IterPost W M D O N C Cx SE)

/-- What is asked where a round's body is left. -/
def RoundQ (D : BSet) (W : World) (Ct : BSet → World → Prop) (Cj : Code → BSet → World → Prop) : Exit → Act → World → Prop
  | .normal, _, W' => ∃ D' : BSet, Keeps D W W' ∧ (∀ b, D' b → D b ∨ W.heap.size ≤ b) ∧ Ct D' W'
  | .ret, _, W' => ∃ D' : BSet, Keeps D W W' ∧ (∀ b, D' b → D b ∨ W.heap.size ≤ b) ∧ Cj .ret D' W'
  | .exit i, _, W' => ∃ D' : BSet, Keeps D W W' ∧ (∀ b, D' b → D b ∨ W.heap.size ≤ b) ∧ Cj (.exit i) D' W'
  | _, _, _ => False

def noDefer (ops : Array Oper) : Bool := ops.toList.all fun o => match o.op with | .defer _ => false | _ => true

/-- A region that draws its order, and only reads, in a round's frame too: one walk in the text's order. -/
theorem wpIn_region_quiet_r {F : Fence} {n : Nat} {P : Program} {id : Nat} {Q : Exit → Act → World → Prop} {a : Act} {w : World} {l : List Oper} (hm : P.follows .mixedOrders = true) (hB : Region.lexB .any l.toArray = true) (hnd : noDefer l.toArray = true)
    (h : wpQuietIn F n P l.toArray (fun w' => ∃ n, w' = w.drewN n) (fun a' => ∀ w', (∃ n, w' = w.drewN n) → Q .normal a' w') l a) : (Code.region id l.toArray true).wpIn F n P Q a w := by
  have hnd' : ∀ (i : Nat) (o : Oper), l.toArray[i]? = some o → ∀ c, o.op ≠ .defer c := by
    intro i o ho c hc
    unfold noDefer at hnd
    rw [List.all_eq_true] at hnd
    have := hnd o (by simpa using List.mem_of_getElem? (by simpa using ho))
    rw [hc] at this; simp at this
  have step : ∀ {o : Oper} {a : Act} {K : Act → Prop} {K' : Act → World → Prop} {Q' : Exit → Act → World → Prop} {w1 : World} (C : World → Prop), (∀ c, o.op ≠ .defer c) → C w1 → (∀ a w', C w' → K a → K' a w') →
      o.askedIn F P a C → o.quietIn F n P a C K → o.wpIn F n P a w1 K' Q' := by
    intro o a K K' Q' w1 C hd hw h ha hh
    obtain ⟨v, h1, h2⟩ := hh
    have h3 := h1 w1 hw
    have hsem : o.semAt F.round a.eval = execOp a.eval o := by
      cases hr : F.round with
      | none => rfl
      | some l => exact Oper.semAt_some l _ o hd
    unfold Oper.quietAtIn at h3
    unfold Oper.wpIn
    refine ⟨ha w1 hw, ?_⟩
    rw [hsem]
    generalize (execOp a.eval o).run P w1 = r at *
    cases r with
    | ok x w' =>
      cases x <;> simp only [Oper.quietUponIn] at h3 <;> simp only [Oper.uponIn]
      case value u =>
        obtain ⟨e1, e2⟩ := h3
        rw [e1, e2]
        exact h _ _ hw h2
      case skip =>
        obtain ⟨e1, e2⟩ := h3
        rw [e1, ← e2]
        exact h _ _ hw h2
      case enter f args =>
        obtain ⟨e1, hd, hc⟩ := h3
        rw [e1]
        exact ⟨hd, hc.mono fun e w'' ⟨he, hw''⟩ => by subst he; exact h _ _ hw'' h2⟩
    | halt x w' => simp only [Oper.quietUponIn] at h3
  have any : ∀ (C : World → Prop) {Q1 : Act → Prop} (hQ : ∀ a w, C w → Q1 a → Q .normal a w) (fuel : Nat) (listed : Array Bool) (a : Act) (w1 : World), C w1 →
      wpAnyQIn F n P .any l.toArray C Q1 fuel listed a → wpAnyIn F n P .any l.toArray Q fuel listed a w1 := by
    intro C Q1 hQ fuel
    induction fuel with
    | zero => exact fun _ _ _ hw h => ⟨h.1, hQ _ _ hw h.2⟩
    | succ fuel ih =>
      intro listed a w1 hw h
      refine ⟨fun h0 => hQ _ _ hw (h.1 h0), fun i hi => ?_⟩
      have hh := h.2 i hi
      unfold qOpIn at hh
      unfold wpOpIn
      split
      · rename_i ho; simp only [ho] at hh; exact ih _ _ _ hw hh
      · rename_i o ho
        simp only [ho] at hh
        obtain ⟨ha, hh⟩ := hh
        split
        · rename_i hw'; simp only [hw', if_true] at hh; exact step C (hnd' i o ho) hw (fun a' w' hw'' => ih _ a' w' hw'') ha hh
        · rename_i hw'; simp only [hw'] at hh; exact ⟨ha w1 hw, ih _ _ _ hw hh⟩
  simp only [Region.lexB, Bool.and_eq_true] at hB
  refine wpIn_region_any hm (any (fun w' => ∃ n, w' = w.drewN n) (Q1 := fun a' => ∀ w', (∃ n, w' = w.drewN n) → Q .normal a' w') (fun _ w' hw' h => h w' hw') _ _ _ _ ⟨1, rfl⟩ ?_)
  have := wpAnyQIn_lex (F := F) (n := n) (C := fun w' => ∃ n, w' = w.drewN n) (md := .any) hB.1 l.toArray.toList 0 (Array.replicate l.toArray.size false) a (by simp) (by simpa using hB.2) (by simpa using h)
  simpa using this

theorem fold2 (p q : Tmp) (x y : Value) (t : List Value) : (#[p, q].zip #[x, y]).foldl (fun t (p, v) => t.setIfInBounds p v) t.toArray = ((t.set p x).set q y).toArray := by simp
theorem fold1 (p : Tmp) (x : Value) (t : List Value) : (#[p].zip #[x]).foldl (fun t (p, v) => t.setIfInBounds p v) t.toArray = (t.set p x).toArray := by simp

set_option maxHeartbeats 1000000 in
/-- THE LAW: 'for .. := range g { body }' in a plain frame. -/
theorem wp_range {P : Program} {g : Operand} {ps : Array Tmp} {assign body : Code} {Q : Exit → Act → World → Prop} {a : Act} {w : World}
    {gf : Nat} {lb : Array Value} (hg : a.eval g = .func (.func gf) #[] lb) (eg : ∀ args w, (callFunc gf args).run P w = .ok (.enter gf args) w)
    {N : Nat} {vals : Nat → Array Value} {M : BSet} {S : BSet → World → Prop} {SE : Nat → BSet → World → Prop} (IS : IterC P gf lb N vals M S SE)
    (hS : Supp S) (hps : ∀ k, (vals k).size = ps.size)
    (C : Nat → BSet → World → Prop) (Cj : Code → Nat → BSet → World → Prop) (hC : ∀ k, Supp (C k)) (hCj : ∀ c k, Supp (Cj c k))
    (D₀ O₀ : BSet) (h0 : C 0 D₀ w) (hS0 : S O₀ w) (hdis : ∀ b, D₀ b → ¬ O₀ b) (a₁ : Nat → Act)
    (hassign : ∀ (l k : Nat) (W : World) (K : Act → World → Prop), K (a₁ k) W →
      assign.wpIn (Fence.wide.inRound l) 0 P (Exit.then K (fun _ _ _ => False)) { tmps := (ps.zip (vals k)).foldl (fun t (p, v) => t.setIfInBounds p v) a.tmps, defers := [] } W)
    (hbody : ∀ (l k : Nat) (D : BSet) (W : World), k < N → C k D W → Keeps (fun b => D₀ b ∨ M b) w W → body.wpIn (Fence.wide.inRound l) 0 P (RoundQ D W (C (k + 1)) (fun c => Cj c (k + 1))) (a₁ k) W)
    (hdone : ∀ (D O : BSet) (W : World), Keeps (fun b => D₀ b ∨ M b) w W → C N D W → SE N O W → (∀ b, D b → ¬ O b) → (∀ b, D b → D₀ b ∨ w.heap.size ≤ b) → (∀ b, O b → O₀ b ∨ w.heap.size ≤ b) →
      Blk W w.heap.size (.deferred (some [])) → ¬ D w.heap.size → ¬ O w.heap.size →
      Q .normal { a with defers := { target := .collected w.heap.size, args := #[] } :: a.defers } W)
    (hstop : ∀ (c : Code) (k : Nat) (D O : BSet) (W : World), k ≤ N → 0 < k → Keeps (fun b => D₀ b ∨ M b) w W → Cj c k D W → SE k O W → (∀ b, D b → ¬ O b) → (∀ b, D b → D₀ b ∨ w.heap.size ≤ b) → (∀ b, O b → O₀ b ∨ w.heap.size ≤ b) →
      Blk W w.heap.size (.deferred (some [])) → ¬ D w.heap.size → ¬ O w.heap.size →
      c.wpIn Fence.wide 0 P Q { a with defers := { target := .collected w.heap.size, args := #[] } :: a.defers } W)
    (hSE : ∀ k, Supp (SE k)) :
    (Code.rangeFunc g ps assign body).wpIn Fence.wide 0 P Q a w := by
  refine wpIn_rangeFunc ?_
  intro fn _
  show ∃ l mark w₁ d w₁' f args w₂, (Instr.enterLoop fn a.tmps ps assign body none).run P w = _ ∧ _
  obtain ⟨rec, hrec⟩ : ∃ rec : LoopState → Option Code → Loop, rec = fun st pe => { state := st, pending := pe, fn, tmps := a.tmps, params := ps, assign, body, defers := w.heap.size } := ⟨_, rfl⟩
  obtain ⟨W1, hW1⟩ : ∃ W1, (w.alloc (.deferred (some []))).alloc (.loop (rec .ready none)) = W1 := ⟨_, rfl⟩
  have hL1 : Blk W1 (w.heap.size + 1) (.loop (rec .ready none)) := by
    rw [← hW1]; have := Blk.new (w.alloc (.deferred (some []))) (.loop (rec .ready none)); rwa [World.size_alloc] at this
  have hK1 : Blk W1 w.heap.size (.deferred (some [])) := by
    rw [← hW1]; exact (Blk.new w _).alloc _
  have hX1 : Ext w W1 := by rw [← hW1]; exact ((Keeps.refl _ w).alloc _).alloc _
  have hs1 : W1.heap.size = w.heap.size + 2 := by rw [← hW1]; simp
  have hD0 : ∀ b, D₀ b → b < w.heap.size := (hC 0).lt _ _ h0
  have hO0 : ∀ b, O₀ b → b < w.heap.size := hS.lt _ _ hS0
  refine ⟨w.heap.size + 1, [{ target := .collected w.heap.size, args := #[] }], W1, { target := .fn (.func gf) lb, args := #[.func (.yield (w.heap.size + 1)) #[] #[]] }, W1, gf,
    #[.func (.yield (w.heap.size + 1)) #[] #[]] ++ lb, W1, ?_, ?_, ?_, ?_, fun h => by simp [Fence.wide] at h, ?_⟩
  · rw [← hW1, hrec]; exact run_enterLoop_outer _ _ _ _ _
  · simp only [resolve, hg]
    simp [go_sem]
  · intro f' _; trivial
  · simp [invoke, go_sem, eg]
  · -- the consumer's invariant with the two blocks of book-keeping
    let CC : Nat → BSet → World → Prop := fun k D W => ∃ D' : BSet, C k D' W ∧ (∀ b, D b ↔ D' b ∨ b = w.heap.size + 1 ∨ b = w.heap.size) ∧ ¬ D' (w.heap.size + 1) ∧ ¬ D' w.heap.size ∧
      Blk W (w.heap.size + 1) (.loop (rec .ready none)) ∧ Blk W w.heap.size (.deferred (some []))
    let CX : Nat → BSet → World → Prop := fun k D W => ∃ (c : Code) (D' : BSet), Cj c k D' W ∧ (∀ b, D b ↔ D' b ∨ b = w.heap.size + 1 ∨ b = w.heap.size) ∧ ¬ D' (w.heap.size + 1) ∧ ¬ D' w.heap.size ∧
      Blk W (w.heap.size + 1) (.loop (rec .done (some c))) ∧ Blk W w.heap.size (.deferred (some []))
    have sCC : ∀ k, Supp (CC k) := fun k => ⟨fun D W ⟨D', h1, h2, _, _, h3, h4⟩ b hb => by
        rcases (h2 b).1 hb with h | rfl | rfl
        · exact (hC k).lt _ _ h1 b h
        · exact h3.lt
        · exact h4.lt,
      fun D W W' ⟨D', h1, h2, h5, h6, h3, h4⟩ hs hb => ⟨D', (hC k).st _ _ _ h1 hs (fun b h => hb b ((h2 b).2 (.inl h))), h2, h5, h6,
        (hb _ ((h2 _).2 (.inr (.inl rfl)))).trans h3, (hb _ ((h2 _).2 (.inr (.inr rfl)))).trans h4⟩⟩
    have sCX : ∀ k, Supp (CX k) := fun k => ⟨fun D W ⟨c, D', h1, h2, _, _, h3, h4⟩ b hb => by
        rcases (h2 b).1 hb with h | rfl | rfl
        · exact (hCj c k).lt _ _ h1 b h
        · exact h3.lt
        · exact h4.lt,
      fun D W W' ⟨c, D', h1, h2, h5, h6, h3, h4⟩ hs hb => ⟨c, D', (hCj c k).st _ _ _ h1 hs (fun b h => hb b ((h2 b).2 (.inl h))), h2, h5, h6,
        (hb _ ((h2 _).2 (.inr (.inl rfl)))).trans h3, (hb _ ((h2 _).2 (.inr (.inr rfl)))).trans h4⟩⟩
    have key := IS (w.heap.size + 1) CC CX sCC sCX (fun b => D₀ b ∨ b = w.heap.size + 1 ∨ b = w.heap.size) O₀ W1 ?_
      ⟨D₀, (hC 0).keeps h0 hX1 (fun _ _ h => h), fun _ => Iff.rfl, fun h => by have := hD0 _ h; omega, fun h => by have := hD0 _ h; omega, hL1, hK1⟩
      (hS.keeps hS0 hX1 (fun _ _ h => h)) (fun b hb ho => by
        have := hO0 b ho
        rcases hb with h | rfl | rfl
        · exact hdis b h ho
        · omega
        · omega)
    · refine CallsIn.mono key ?_
      rintro e W' ⟨⟨v, rfl⟩, D', O', hk, hD', hO', hdis', hcase⟩
      have hkw : Keeps (fun b => D₀ b ∨ M b) w W' := (hX1.mono (fun _ _ h => h.elim)).trans' hk (fun x hx h => by
          rcases h with (h | rfl | rfl) | h
          · exact .inl h
          · omega
          · omega
          · exact .inr h)
      have hOo : ∀ b, O' b → O₀ b ∨ w.heap.size ≤ b := fun b hb => (hO' b hb).imp id (fun h => by omega)
      rcases hcase with ⟨⟨D'', h1, h2, h5, h6, h3, h4⟩, hse⟩ | ⟨k, hk1, hk2, ⟨c, D'', h1, h2, h5, h6, h3, h4⟩, hse⟩
      · have hO1 : ¬ O' (w.heap.size + 1) := hdis' _ ((h2 _).2 (.inr (.inl rfl)))
        have hO2 : ¬ O' w.heap.size := hdis' _ ((h2 _).2 (.inr (.inr rfl)))
        obtain ⟨ox, he⟩ : ∃ ox, (Instr.endLoop (w.heap.size + 1)).run P W' = .ok none (W'.putObj (w.heap.size + 1) ox) := ⟨_, (run_endLoop (r := rec .ready none) h3 (by rw [hrec]; simp)).trans (by rw [hrec])⟩
        have hkl := Keeps.onePut W' (w.heap.size + 1) ox
        refine ⟨none, _, he, ?_⟩
        refine hdone D'' O' _ (hkw.trans' hkl (fun x hx e => by omega)) ((hC N).keeps h1 hkl (fun b hb e => h5 (e ▸ hb))) ((hSE N).keeps hse hkl (fun b hb e => hO1 (e ▸ hb)))
          (fun b hb ho => hdis' b ((h2 b).2 (.inl hb)) ho) (fun b hb => ?_) hOo (h4.put_other (by omega) _) h6 hO2
        rcases hD' b ((h2 b).2 (.inl hb)) with (h | rfl | rfl) | h
        · exact .inl h
        · exact absurd hb h5
        · exact absurd hb h6
        · exact .inr (by omega)
      · have hO1 : ¬ O' (w.heap.size + 1) := hdis' _ ((h2 _).2 (.inr (.inl rfl)))
        have hO2 : ¬ O' w.heap.size := hdis' _ ((h2 _).2 (.inr (.inr rfl)))
        obtain ⟨ox, he⟩ : ∃ ox, (Instr.endLoop (w.heap.size + 1)).run P W' = .ok (some c) (W'.putObj (w.heap.size + 1) ox) := ⟨_, (run_endLoop (r := rec .done (some c)) h3 (by rw [hrec]; simp)).trans (by rw [hrec])⟩
        have hkl := Keeps.onePut W' (w.heap.size + 1) ox
        refine ⟨some c, _, he, ?_⟩
        refine hstop c k D'' O' _ hk1 hk2 (hkw.trans' hkl (fun x hx e => by omega)) ((hCj c k).keeps h1 hkl (fun b hb e => h5 (e ▸ hb))) ((hSE k).keeps hse hkl (fun b hb e => hO1 (e ▸ hb)))
          (fun b hb ho => hdis' b ((h2 b).2 (.inl hb)) ho) (fun b hb => ?_) hOo (h4.put_other (by omega) _) h6 hO2
        rcases hD' b ((h2 b).2 (.inl hb)) with (h | rfl | rfl) | h
        · exact .inl h
        · exact absurd hb h5
        · exact absurd hb h6
        · exact .inr (by omega)
    · rintro k D W hk ⟨D', h1, h2, h5, h6, h3, h4⟩ hkk
      have hkw : Keeps (fun b => D₀ b ∨ M b) w W := (hX1.mono (fun _ _ h => h.elim)).trans' hkk (fun x hx h => by
          rcases h with (h | rfl | rfl) | h
          · exact .inl h
          · omega
          · omega
          · exact .inr h)
      have hD1 : D (w.heap.size + 1) := (h2 _).2 (.inr (.inl rfl))
      refine ⟨_, _, _, _, run_yield h3 (by rw [hrec]; exact hps k), ?_⟩
      refine roundIn_of_wpIn trivial ?_
      rw [show (rec .ready none).tmps = a.tmps from by rw [hrec], show (rec .ready none).params = ps from by rw [hrec], show (rec .ready none).assign = assign from by rw [hrec], show (rec .ready none).body = body from by rw [hrec]]
      refine hassign _ k W _ ?_
      refine ⟨_, run_beginRound h3 (by rw [hrec]), ?_⟩
      have hkb : Keeps (fun b => b = w.heap.size + 1) W (W.putObj (w.heap.size + 1) (.loop { rec .ready none with state := .busy })) := Keeps.onePut _ _ _
      have hsz : w.heap.size ≤ W.heap.size := by have := h4.lt; omega
      refine Code.wpIn_mono ?_ (hbody (w.heap.size + 1) k D' _ hk ((hC k).keeps h1 hkb (fun b hb e => h5 (e ▸ hb))) (hkw.trans' hkb (fun x hx e => by omega)))
      have fin : ∀ (j : Option Code) (D'' : BSet) (W' : World), Keeps D' (W.putObj (w.heap.size + 1) (.loop { rec .ready none with state := .busy })) W' →
          (∀ b, D'' b → D' b ∨ (W.putObj (w.heap.size + 1) (.loop { rec .ready none with state := .busy })).heap.size ≤ b) →
          (Instr.endRound (w.heap.size + 1) j).run P W' = .ok (.bool j.isNone) (W'.putObj (w.heap.size + 1) (.loop (rec (if j.isNone then .ready else .done) j))) ∧
          Keeps D W (W'.putObj (w.heap.size + 1) (.loop (rec (if j.isNone then .ready else .done) j))) ∧
          Keeps (fun b => b = w.heap.size + 1) W' (W'.putObj (w.heap.size + 1) (.loop (rec (if j.isNone then .ready else .done) j))) ∧
          (∀ b, (D'' b ∨ b = w.heap.size + 1 ∨ b = w.heap.size) → D b ∨ W.heap.size ≤ b) ∧ ¬ D'' (w.heap.size + 1) ∧ ¬ D'' w.heap.size ∧
          Blk (W'.putObj (w.heap.size + 1) (.loop (rec (if j.isNone then .ready else .done) j))) (w.heap.size + 1) (.loop (rec (if j.isNone then .ready else .done) j)) ∧
          Blk (W'.putObj (w.heap.size + 1) (.loop (rec (if j.isNone then .ready else .done) j))) w.heap.size (.deferred (some [])) := by
        intro j D'' W' hK hD''
        have hl : Blk W' (w.heap.size + 1) (.loop { rec .ready none with state := .busy }) := (h3.put_same _).keeps hK h5
        have hd : Blk W' w.heap.size (.deferred (some [])) := (h4.put_other (by omega) _).keeps hK h6
        have hke : Keeps (fun b => b = w.heap.size + 1) W' (W'.putObj (w.heap.size + 1) (.loop (rec (if j.isNone then .ready else .done) j))) := Keeps.onePut _ _ _
        rw [World.putObj_size] at hD''
        have hlt3 := h3.lt
        have hlt4 := h4.lt
        refine ⟨?_, ?_, hke, ?_, ?_, ?_, ?_, ?_⟩
        · rw [run_endRound j hl, hrec]
        · exact ((hkb.mono (fun x _ e => e ▸ hD1)).trans' hK (fun x hx h => (h2 x).2 (.inl h))).trans' hke (fun x hx e => e ▸ hD1)
        · rintro b (h | rfl | rfl)
          · exact (hD'' b h).imp (fun h => (h2 b).2 (.inl h)) id
          · exact .inl hD1
          · exact .inl ((h2 _).2 (.inr (.inr rfl)))
        · intro h; rcases hD'' _ h with h | h
          · exact h5 h
          · omega
        · intro h; rcases hD'' _ h with h | h
          · exact h6 h
          · omega
        · exact hl.put_same _
        · exact hd.put_other (by omega) _
      intro e a' W' hq
      cases e with
      | normal =>
        obtain ⟨D'', hK, hD'', hc⟩ := hq
        obtain ⟨f1, f2, f3, f4, f5, f6, f7, f8⟩ := fin none D'' W' hK hD''
        exact ⟨_, _, f1, fun b => D'' b ∨ b = w.heap.size + 1 ∨ b = w.heap.size, f2, f4, .inl ⟨rfl, D'', (hC _).keeps hc f3 (fun b hb e => f5 (e ▸ hb)), fun _ => Iff.rfl, f5, f6, f7, f8⟩⟩
      | ret =>
        obtain ⟨D'', hK, hD'', hc⟩ := hq
        obtain ⟨f1, f2, f3, f4, f5, f6, f7, f8⟩ := fin (some .ret) D'' W' hK hD''
        exact ⟨_, _, f1, fun b => D'' b ∨ b = w.heap.size + 1 ∨ b = w.heap.size, f2, f4, .inr ⟨rfl, .ret, D'', (hCj _ _).keeps hc f3 (fun b hb e => f5 (e ▸ hb)), fun _ => Iff.rfl, f5, f6, f7, f8⟩⟩
      | exit i =>
        obtain ⟨D'', hK, hD'', hc⟩ := hq
        obtain ⟨f1, f2, f3, f4, f5, f6, f7, f8⟩ := fin (some (.exit i)) D'' W' hK hD''
        exact ⟨_, _, f1, fun b => D'' b ∨ b = w.heap.size + 1 ∨ b = w.heap.size, f2, f4, .inr ⟨rfl, .exit i, D'', (hCj _ _).keeps hc f3 (fun b hb e => f5 (e ▸ hb)), fun _ => Iff.rfl, f5, f6, f7, f8⟩⟩
      | goto t => exact hq.elim
      | panic ch => exact hq.elim
      | outgrown => exact hq.elim
end
end Go.Proofs.YtneojlgbcaejmaaGreatDoor
