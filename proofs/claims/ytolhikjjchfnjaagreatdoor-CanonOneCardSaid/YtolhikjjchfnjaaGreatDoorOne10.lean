/- Parts of the proof, one behind the other: IterM, CanonT, CanonU, CanonV, CanonW, CanonX. Each is under no condition but those that it states. -/
import Derived.Test.YtolhikjjchfnjaaGreatDoorOne9
import Derived.Sort.OwnSorted
/- A range over a function that hands what it has in an order of no one's choosing, and owns one block (a map's iterator): its contract, the caller's law. Over any program. -/
namespace Go.Proofs.YtolhikjjchfnjaaGreatDoor
section
open Go Go.RowKit
set_option linter.unusedSimpArgs false
set_option linter.unusedVariables false

/-- A round that goes on: it keeps the block r. -/
def YieldM (P : Program) (l : Nat) (args : Array Value) (W : World) (r : Nat) (Ct : World → Prop) : Prop :=
  YieldAt Fence.wide 0 P l args W fun e W' => e = .returned (.bool true) ∧ Keeps (fun b => b ≠ r) W W' ∧ Ct W'

/-- The iterator's contract: from s0 on, by steps, to where it is done; S: what it rests on; the first block that it makes is its own. -/
def IterM (P : Program) (gf : FuncId) (lb : Array Value) {σ : Type} (s0 : σ) (Step : σ → Array Value → σ → Prop) (Done : σ → Prop) (S : World → Prop) : Prop :=
  ∀ (l : Nat) (C : σ → World → Prop) (W : World), (∀ s W1 W2, C s W1 → Keeps (fun b => b = W.heap.size) W1 W2 → C s W2) → (∀ s W1, C s W1 → S W1) →
    (∀ s v s' W1, Step s v s' → C s W1 → W.heap.size < W1.heap.size → YieldM P l v W1 W.heap.size (C s')) → C s0 W →
      CallsIn Fence.wide 0 P gf (#[.func (.yield l) #[] #[]] ++ lb) W (fun e W' => (∃ v, e = .returned v) ∧ ∃ s, Done s ∧ C s W')

/-- What is asked where a round's body is left: the blocks of book-keeping, and the iterator's, stay. -/
def RoundM (g : Nat) (W : World) (Ct : World → Prop) : Exit → Act → World → Prop
  | .normal, _, W' => Keeps (fun b => b ≠ g ∧ b ≠ g + 1 ∧ b ≠ g + 2) W W' ∧ Ct W'
  | _, _, _ => False

set_option maxHeartbeats 1000000 in
/-- THE LAW. g = w.heap.size, g + 1: the blocks of book-keeping; g + 2: the iterator's. -/
theorem wp_rangeM {P : Program} {g : Operand} {ps : Array Tmp} {assign body : Code} {Q : Exit → Act → World → Prop} {a : Act} {w : World}
    {gf : Nat} {lb : Array Value} (hg : a.eval g = .func (.func gf) #[] lb) (eg : ∀ args w, (callFunc gf args).run P w = .ok (.enter gf args) w)
    {σ : Type} {s0 : σ} {Step : σ → Array Value → σ → Prop} {Done : σ → Prop} {S : World → Prop} (IS : IterM P gf lb s0 Step Done S)
    (hps : ∀ s v s', Step s v s' → v.size = ps.size)
    (C : σ → World → Prop) (hC : ∀ s W W', C s W → Keeps (fun b => b = w.heap.size ∨ b = w.heap.size + 1 ∨ b = w.heap.size + 2) W W' → C s W') (hS : ∀ s W, C s W → S W)
    (h0 : C s0 w) (a₁ : Array Value → Act)
    (hassign : ∀ (l : Nat) (v : Array Value) (s s' : σ) (W : World) (K : Act → World → Prop), Step s v s' → K (a₁ v) W →
      assign.wpIn (Fence.wide.inRound l) 0 P (Exit.then K (fun _ _ _ => False)) { tmps := (ps.zip v).foldl (fun t (p, v) => t.setIfInBounds p v) a.tmps, defers := [] } W)
    (hbody : ∀ (l : Nat) (v : Array Value) (s s' : σ) (W : World), Step s v s' → C s W → w.heap.size + 2 < W.heap.size → body.wpIn (Fence.wide.inRound l) 0 P (RoundM w.heap.size W (C s')) (a₁ v) W)
    (hdone : ∀ (s : σ) (W : World), Done s → C s W → Blk W w.heap.size (.deferred (some [])) → Q .normal { a with defers := { target := .collected w.heap.size, args := #[] } :: a.defers } W) :
    (Code.rangeFunc g ps assign body).wpIn Fence.wide 0 P Q a w := by
  refine wpIn_rangeFunc ?_
  intro fn _
  show ∃ l mark w₁ d w₁' f args w₂, (Instr.enterLoop fn a.tmps ps assign body none).run P w = _ ∧ _
  obtain ⟨rec, hrec⟩ : ∃ rec : LoopState → Option Code → Loop, rec = fun st pe => { state := st, pending := pe, fn, tmps := a.tmps, params := ps, assign, body, defers := w.heap.size } := ⟨_, rfl⟩
  obtain ⟨W1, hW1⟩ : ∃ W1, (w.alloc (.deferred (some []))).alloc (.loop (rec .ready none)) = W1 := ⟨_, rfl⟩
  have hL1 : Blk W1 (w.heap.size + 1) (.loop (rec .ready none)) := by
    rw [← hW1]; have := Blk.new (w.alloc (.deferred (some []))) (.loop (rec .ready none)); rwa [World.size_alloc] at this
  have hK1 : Blk W1 w.heap.size (.deferred (some [])) := by
    rw [← hW1]; exact (Blk.new w _).alloc _
  have hX1 : Ext w W1 := by rw [← hW1]; exact ((Keeps.refl _ w).alloc _).alloc _
  have hs1 : W1.heap.size = w.heap.size + 2 := by rw [← hW1]; simp
  refine ⟨w.heap.size + 1, [{ target := .collected w.heap.size, args := #[] }], W1, { target := .fn (.func gf) lb, args := #[.func (.yield (w.heap.size + 1)) #[] #[]] }, W1, gf,
    #[.func (.yield (w.heap.size + 1)) #[] #[]] ++ lb, W1, ?_, ?_, ?_, ?_, fun h => by simp [Fence.wide] at h, ?_⟩
  · rw [← hW1, hrec]; exact run_enterLoop_outer _ _ _ _ _
  · simp only [resolve, hg]
    simp [go_sem]
  · intro f' _; trivial
  · simp [invoke, go_sem, eg]
  · let CC : σ → World → Prop := fun s W => C s W ∧ Blk W (w.heap.size + 1) (.loop (rec .ready none)) ∧ Blk W w.heap.size (.deferred (some []))
    have key := IS (w.heap.size + 1) CC W1 (fun s Wa Wb ⟨h1, h2, h3⟩ e => ⟨hC s _ _ h1 (e.mono (fun b _ h => by rw [hs1] at h; exact .inr (.inr h))), h2.keeps e (by rw [hs1]; omega), h3.keeps e (by rw [hs1]; omega)⟩)
      (fun s W h => hS s W h.1) ?_ ⟨hC s0 _ _ h0 (hX1.mono (fun _ _ h => h.elim)), hL1, hK1⟩
    · refine CallsIn.mono key ?_
      rintro e W' ⟨⟨v, rfl⟩, s, hd, h1, h3, h4⟩
      obtain ⟨ox, he⟩ : ∃ ox, (Instr.endLoop (w.heap.size + 1)).run P W' = .ok none (W'.putObj (w.heap.size + 1) ox) := ⟨_, (run_endLoop (r := rec .ready none) h3 (by rw [hrec]; simp)).trans (by rw [hrec])⟩
      exact ⟨none, _, he, hdone s _ hd (hC s _ _ h1 ((Keeps.onePut _ _ _).mono (fun b _ h => .inr (.inl h)))) (h4.put_other (by omega) _)⟩
    · rintro s v s' W hst ⟨h1, h3, h4⟩ hlt
      rw [hs1] at hlt
      refine ⟨_, _, _, _, run_yield h3 (by rw [hrec]; exact hps s v s' hst), ?_⟩
      refine roundIn_of_wpIn trivial ?_
      rw [show (rec .ready none).tmps = a.tmps from by rw [hrec], show (rec .ready none).params = ps from by rw [hrec], show (rec .ready none).assign = assign from by rw [hrec], show (rec .ready none).body = body from by rw [hrec]]
      refine hassign _ v s s' W _ hst ?_
      refine ⟨_, run_beginRound h3 (by rw [hrec]), ?_⟩
      have hb1 : C s (W.putObj (w.heap.size + 1) (.loop { rec .ready none with state := .busy })) := hC s _ _ h1 ((Keeps.onePut _ _ _).mono (fun b _ h => .inr (.inl h)))
      refine Code.wpIn_mono ?_ (hbody (w.heap.size + 1) v s s' _ hst hb1 (by rw [World.putObj_size]; exact hlt))
      have fin : ∀ (j : Option Code) (W' : World), Keeps (fun b => b ≠ w.heap.size ∧ b ≠ w.heap.size + 1 ∧ b ≠ w.heap.size + 2) (W.putObj (w.heap.size + 1) (.loop { rec .ready none with state := .busy })) W' →
          (Instr.endRound (w.heap.size + 1) j).run P W' = .ok (.bool j.isNone) (W'.putObj (w.heap.size + 1) (.loop (rec (if j.isNone then .ready else .done) j))) ∧
          Blk (W'.putObj (w.heap.size + 1) (.loop (rec (if j.isNone then .ready else .done) j))) (w.heap.size + 1) (.loop (rec (if j.isNone then .ready else .done) j)) ∧
          Blk (W'.putObj (w.heap.size + 1) (.loop (rec (if j.isNone then .ready else .done) j))) w.heap.size (.deferred (some [])) := by
        intro j W' hK
        have hl : Blk W' (w.heap.size + 1) (.loop { rec .ready none with state := .busy }) := (h3.put_same _).keeps hK (fun h => h.2.1 rfl)
        have hd : Blk W' w.heap.size (.deferred (some [])) := (h4.put_other (by omega) _).keeps hK (fun h => h.1 rfl)
        refine ⟨?_, hl.put_same _, hd.put_other (by omega) _⟩
        rw [run_endRound j hl, hrec]
      intro e a' W' hq
      cases e with
      | normal =>
        obtain ⟨hK, hc⟩ := hq
        obtain ⟨f1, f2, f3⟩ := fin none W' hK
        have k1 : Keeps (fun b => b ≠ W1.heap.size) W (W.putObj (w.heap.size + 1) (.loop { rec .ready none with state := .busy })) := (Keeps.onePut _ _ _).mono (fun b _ h => by have h : b = w.heap.size + 1 := h; rw [hs1]; omega)
        have k2 : Keeps (fun b => b ≠ W1.heap.size) (W.putObj (w.heap.size + 1) (.loop { rec .ready none with state := .busy })) W' := hK.mono (fun b _ h => by rw [hs1]; exact h.2.2)
        have k3 : Keeps (fun b => b ≠ W1.heap.size) W' (W'.putObj (w.heap.size + 1) (.loop (rec .ready none))) := (Keeps.onePut _ _ _).mono (fun b _ h => by have h : b = w.heap.size + 1 := h; rw [hs1]; omega)
        exact ⟨_, _, f1, rfl, (k1.trans k2).trans k3, hC s' _ _ hc ((Keeps.onePut _ _ _).mono (fun b _ h => .inr (.inl h))), f2, f3⟩
      | _ => exact hq.elim
end
end Go.Proofs.YtolhikjjchfnjaaGreatDoor
/- canon: the keys of a map, in order. -/
namespace Go.Proofs.YtolhikjjchfnjaaGreatDoor
section
open Go Go.RowKit
set_option linter.unusedSimpArgs false
set_option linter.unusedVariables false
attribute [local go_sem] Oper.semAt_some
abbrev EntS := Ent (List UInt8)
theorem Tryz.uMapSE : Tryz.prog.underlying 79 = some (.map 9 52) := by kernel_rfl
def bornS (s : List EntS) : Array Nat := (s.map (·.2.2)).toArray
def KStep (es : List EntS) (s : List EntS) (v : Array Value) (s' : List EntS) : Prop := ∃ x ∈ entLeft es (bornS s), v = #[str x.1] ∧ s' = s ++ [x]
def KDone (es : List EntS) (s : List EntS) : Prop := entLeft es (bornS s) = []
def seenAt (w : World) (r : Nat) : Array Nat := match w.heap[r]? with | some (.mapIter _ _ s _) => s | _ => #[]
theorem seenAt_blk {w : World} {r : Nat} {m : Option Nat} {a b : Nat} {s : Array Nat} (h : Blk w r (.mapIter m a s b)) : seenAt w r = s := by
  unfold seenAt; rw [show w.heap[r]? = _ from h]
theorem left_lt {es : List EntS} {s : List EntS} {x : EntS} (hx : x ∈ entLeft es (bornS s)) : (entLeft es (bornS (s ++ [x]))).length < (entLeft es (bornS s)).length := by
  have e : entLeft es (bornS (s ++ [x])) = (entLeft es (bornS s)).filter (fun y => !(y.2.2 == x.2.2)) := by
    unfold entLeft bornS
    rw [List.filter_filter]
    refine List.filter_congr (fun y _ => ?_)
    simp only [List.contains_toArray, List.map_append, List.map_cons, List.map_nil, List.contains_append]
    by_cases h1 : y.2.2 = x.2.2 <;> simp [h1]
  rw [e, List.length_filter_lt_length_iff_exists]
  exact ⟨x, hx, by simp⟩
def KyS (bx bm ck : Nat) (es : List EntS) (W : World) : Prop := Blk W bx (.cells #[.map (some bm)] 79) ∧ Blk W bm (.map (Tryz.ES.arr es) ck)
def KyRel (r bm ck : Nat) (es : List EntS) (C : List EntS → World → Prop) (wr : World) : Prop := ∃ s, C s wr ∧ Blk wr r (.mapIter (some bm) ck (bornS s) ck)
set_option maxRecDepth 100000 in
set_option maxHeartbeats 2000000 in
theorem keys_it (bx bm ck : Nat) (es : List EntS) (hnd : (es.map (·.2.2)).Nodup) (hlt : ∀ x ∈ es, x.2.2 < ck) :
    IterM Tryz.prog 84 #[.pointer (some ⟨bx, 0, none⟩)] ([] : List EntS) (KStep es) (KDone es) (KyS bx bm ck es) := by
  intro l C W hC hS hY h0
  obtain ⟨hx, hm⟩ := hS _ _ h0
  have c1 := hx.cell (i := 0) (v := .map (some bm)) (by rfl)
  have hrg := run_range Tryz.ES Tryz.uMapSE hm
  have HC0 := Lib.hid (show C [] (W.alloc (.mapIter (some bm) ck #[] ck)) from hC [] _ _ h0 (((ExtR W).alloc _).mono (fun _ _ h => h.elim)))
  have HC := Lib.hid hC
  have HS := Lib.hid hS
  have HY := Lib.hid hY
  have HND := Lib.hid hnd
  have HLT := Lib.hid hlt
  clear hC hS hY h0 hx hm hnd hlt
  refine callsIn_of_wp Tryz.func84 rfl trivial ?_ rfl
  simp only [Tryz.ntmps84, List.size_toArray, List.length_cons, List.length_nil, Nat.reduceAdd, Nat.reduceSub, Array.replicate_succ, Array.replicate_zero, List.push_toArray, List.append_toArray, List.nil_append, List.cons_append]
  gi_wp2_with fail
  obtain ⟨r, hr⟩ : ∃ r, r = W.heap.size := ⟨_, rfl⟩
  have HR := Lib.hid hr
  rw [← hr]
  clear hr
  gi_loopw [] (fun wr => KyRel r bm ck es C wr) (fun wr => (entLeft es (seenAt wr r)).length)
  case atStart => exact ⟨[], HC0.out, by rw [HR.out]; exact Blk.new W _⟩
  case round =>
    obtain ⟨s, hCs, hB⟩ := hrel
    obtain ⟨hx, hm⟩ := HS.out _ _ hCs
    rcases run_next Tryz.ES hm hB HLT.out 0 with ⟨hl0, hnx⟩ | ⟨x, hxl, w2, hnx, hr2, hk2⟩
    · have HDN := Lib.hid (show KDone es s from hl0)
      have HCs := Lib.hid hCs
      clear hl0 hCs hx hm hB HC HS HY HND HLT HC0 c1 hrg
      gi_wp2_with fail
      refine bodyPost_end (results_none rfl _ _ _) rfl ?_
      exact ⟨⟨_, rfl⟩, s, HDN.out, HCs.out⟩
    · have hne : r ≠ bm := fun e => by have := hm.uniq (e ▸ hB); cases this
      have hm2 := hm.keeps hk2 (fun e => hne e.symm)
      have hxm : x ∈ es := (List.mem_filter.1 hxl).1
      have hen := run_entry Tryz.ES hm2 hxm hr2 HND.out
      have hC2 : C s w2 := HC.out s _ _ hCs (hk2.mono (fun b _ e => by rw [← HR.out]; exact e))
      obtain ⟨fn, tm, asg, bd, hyr, hrd⟩ := HY.out s #[str x.1] (s ++ [x]) w2 ⟨x, hxl, rfl, rfl⟩ hC2 (by rw [← HR.out]; exact hr2.lt)
      have hyr' : (Instr.yield l #[Tryz.ES.κ x.1]).run Tryz.prog w2 = .ok (.round l fn tm asg bd) w2 := hyr
      have HXL := Lib.hid hxl
      have HSN := Lib.hid (seenAt_blk hB)
      have hbs : (bornS s).push x.2.2 = bornS (s ++ [x]) := by unfold bornS; simp
      rw [hbs] at hr2
      have HR2 := Lib.hid hr2
      have HRD := Lib.hid hrd
      clear hyr hC2 hCs hx hm hB HC HS HND HLT HC0 c1 hrg hm2 hk2 hxl hxm hr2 hrd hbs hne
      gi_wp2_with fail
      refine ⟨rfl, HRD.out.mono ?_⟩
      rintro e w5 ⟨rfl, k5, C5⟩
      have HB5 := Lib.hid (HR2.out.keeps k5 (fun h => h HR.out))
      have HC5 := Lib.hid C5
      clear C5 k5 hnx hen hyr'
      gi_wp2_with fail
      go_roundw
      case rel => exact ⟨_, HC5.out, HB5.out⟩
      case measure =>
        rw [seenAt_blk HB5.out, HSN.out]; exact left_lt HXL.out
end
end Go.Proofs.YtolhikjjchfnjaaGreatDoor
/- canon: the keys of a map, as a row, in order. -/
namespace Go.Proofs.YtolhikjjchfnjaaGreatDoor
section
open Go Go.RowKit
set_option linter.unusedSimpArgs false
set_option linter.unusedVariables false
attribute [local go_sem] Oper.semAt_some
def keyB (x : EntS) : ByteArray := ⟨x.1.toArray⟩
theorem str_keyB (x : EntS) : str x.1 = .string (keyB x) := rfl
theorem Tryz.enterKeys1 : ∀ args w, (callFunc 84 args).run Tryz.prog w = .ok (.enter 84 args) w := fun _ _ => by kernel_rfl
def InvS (es s : List EntS) : Prop := (s.map (·.2.2)).Nodup ∧ ∀ x ∈ s, x ∈ es
theorem InvS.step {es s s' : List EntS} {v : Array Value} (h : InvS es s) (k : KStep es s v s') : InvS es s' := by
  obtain ⟨x, hx, _, rfl⟩ := k
  obtain ⟨h1, h2⟩ := List.mem_filter.1 hx
  have h2 : x.2.2 ∉ s.map (·.2.2) := by simpa [bornS] using h2
  refine ⟨?_, fun z hz => ?_⟩
  · rw [List.map_append, List.nodup_append]
    exact ⟨h.1, by simp, fun a ha b hb e => by simp at hb; subst hb; subst e; exact h2 ha⟩
  · rcases List.mem_append.1 hz with hz | hz
    · exact h.2 z hz
    · simp at hz; exact hz ▸ h1
theorem InvS.len {es s : List EntS} (h : InvS es s) : s.length ≤ es.length := by
  have := List.Nodup.length_le_of_subset h.1 (l₂ := es.map (·.2.2)) (fun k hk => by
    obtain ⟨z, hz, e⟩ := List.mem_map.1 hk; exact List.mem_map.2 ⟨z, h.2 z hz, e⟩)
  simpa using this
theorem InvS.perm {es s : List EntS} (h : InvS es s) (hd : KDone es s) (hst : (es.map (·.2.2)).Nodup) (hkn : (es.map (·.1)).Nodup) : (s.map (·.1)).Perm (es.map (·.1)) := by
  have hsub : ∀ x ∈ es, x ∈ s := by
    intro x hx
    by_cases hc : x.2.2 ∈ s.map (·.2.2)
    · obtain ⟨z, hz, e⟩ := List.mem_map.1 hc
      have := nodup_map_inj hst (h.2 z hz) hx e
      exact this ▸ hz
    · have : x ∈ entLeft es (bornS s) := by
        refine List.mem_filter.2 ⟨hx, ?_⟩
        simpa [bornS] using hc
      rw [hd] at this; cases this
  have hnd : (s.map (·.1)).Nodup := by
    have h1 := h.1
    have h2 := h.2
    clear h hd hsub
    induction s with
    | nil => simp
    | cons z r ih =>
      rw [List.map_cons, List.nodup_cons] at h1 ⊢
      refine ⟨fun hm => ?_, ih h1.2 (fun x hx => h2 x (List.mem_cons_of_mem _ hx))⟩
      obtain ⟨y, hy, e⟩ := List.mem_map.1 hm
      have := nodup_map_inj hkn (h2 y (List.mem_cons_of_mem _ hy)) (h2 z (List.mem_cons_self ..)) e
      exact h1.1 (List.mem_map.2 ⟨y, hy, by rw [this]⟩)
  refine perm_of_mem_iff hnd hkn fun k => ?_
  constructor
  · intro hk; obtain ⟨z, hz, e⟩ := List.mem_map.1 hk; exact List.mem_map.2 ⟨z, h.2 z hz, e⟩
  · intro hk; obtain ⟨z, hz, e⟩ := List.mem_map.1 hk; exact List.mem_map.2 ⟨z, hsub z hz, e⟩
/-- Where the round stands. -/
structure AppS (w : World) (es s : List EntS) (W : World) : Prop where
  ext : Ext w W
  inv : InvS es s
  var : ∃ v, Blk W w.heap.size (.cells #[v] 29) ∧ W.ownsRow 0 9 1 v s.length ((s.map keyB).map Value.string) ∧ ∀ b, v.ownBlock = some b → w.heap.size + 4 ≤ b
theorem AppS.st {w : World} {es s : List EntS} {W W' : World} (h : AppS w es s W) (k : Keeps (fun b => b = w.heap.size + 1 ∨ b = w.heap.size + 1 + 1 ∨ b = w.heap.size + 1 + 2) W W') : AppS w es s W' := by
  obtain ⟨v, h1, h2, h3⟩ := h.var
  exact ⟨h.ext.trans' k (fun x hx e => by omega), h.inv, v, h1.keeps k (by omega), own_keeps h2 k (fun b hb e => by have := h3 b hb; omega), h3⟩
set_option maxRecDepth 100000 in
set_option maxHeartbeats 4000000 in
theorem appseq_c (w : World) (bx bm ck : Nat) (es : List EntS) (hk : KyS bx bm ck es w) (hnd : (es.map (·.2.2)).Nodup) (hlt : ∀ x ∈ es, x.2.2 < ck) (hlen : es.length ≤ 1000000) :
    Calls Tryz.prog 108 #[.slice none 0 0, .func (.func 84) #[] #[.pointer (some ⟨bx, 0, none⟩)]] w fun e w' => ∃ u s, e = .returned u ∧ InvS es s ∧ KDone es s ∧ SRow w w' u s.length (s.map keyB) := by
  have HIT := Lib.hid (keys_it bx bm ck es hnd hlt)
  have HK := Lib.hid hk
  clear hk hnd hlt
  rw [← callsIn_wide (n := 0)]
  refine callsIn_of_wp_marks Tryz.func108 rfl trivial ?_ rfl
  simp only [Tryz.ntmps108, List.size_toArray, List.length_cons, List.length_nil, Nat.reduceAdd, Nat.reduceSub, Array.replicate_succ, Array.replicate_zero, List.push_toArray, List.append_toArray, List.nil_append, List.cons_append]
  gi_wp2_with fail
  obtain ⟨w1, hw1⟩ : ∃ w1, w1 = w.alloc (.cells #[.slice none 0 0] 29) := ⟨_, rfl⟩
  rw [← hw1]
  have hs1 : w1.heap.size = w.heap.size + 1 := by rw [hw1]; simp
  have S0 : AppS w es [] w1 := by
    rw [hw1]
    exact ⟨(ExtR w).alloc _, ⟨by simp, fun x hx => by cases hx⟩, _, Blk.new w _, World.ownsRow_nil _ _ _ _, fun b hb => by cases hb⟩
  have HS0 := Lib.hid S0
  clear S0 hw1
  refine wp_rangeM (gf := 84) (lb := #[.pointer (some ⟨bx, 0, none⟩)]) rfl Tryz.enterKeys1 HIT.out
    (fun s v s' h => by obtain ⟨x, _, rfl, _⟩ := h; rfl) (AppS w es) (fun s W W' h k => h.st (by rw [hs1] at k; exact k)) (fun s W h => ⟨HK.out.1.keeps h.ext (fun h => h), HK.out.2.keeps h.ext (fun h => h)⟩) HS0.out
    (fun v => { tmps := #[.slice none 0 0, .func (.func 84) #[] #[.pointer (some ⟨bx, 0, none⟩)], .pointer (some ⟨w.heap.size, 0, none⟩), undef, .slice none 0 0, v.getD 0 undef, .func (.func 84) #[] #[.pointer (some ⟨bx, 0, none⟩)], v.getD 0 undef, undef, undef, undef, undef, undef], defers := [] })
    ?hassign ?hbody ?hdone
  case hassign =>
    intro l2 v s s' W K hst hK
    obtain ⟨x, _, rfl, _⟩ := hst
    rw [str_keyB] at hK ⊢
    rw [fold1]
    simp only [List.set_cons_zero, List.set_cons_succ]
    gi_wp2
    exact hK
  case hbody =>
    intro l2 v s s' W hst h hlt
    have hinv := h.inv.step hst
    obtain ⟨x, hx, rfl, rfl⟩ := hst
    obtain ⟨v, h1, h2, h3⟩ := h.var
    obtain ⟨ad, cp, rfl⟩ := row_slice h2
    rw [str_keyB]
    obtain ⟨q, hq⟩ : ∃ q, q = keyB x := ⟨_, rfl⟩
    rw [← hq]
    have hln : s.length ≤ 1000000 := Nat.le_trans h.inv.len hlen
    have hV := h1.cell (i := 0) (v := .slice ad s.length cp) (by rfl)
    have hVf : W.frozen? ⟨w.heap.size, 0, none⟩ = false := h1.frozen
    obtain ⟨n, hn⟩ : ∃ n, n = s.length := ⟨_, rfl⟩
    rw [← hn] at h2 hln hV h1 h3
    have hlt : w.heap.size + 3 < W.heap.size := by rw [hs1] at hlt; omega
    have HN := Lib.hid hn
    have HQ := Lib.hid hq
    have HV := Lib.hid h1
    have HO := Lib.hid h2
    have H3 := Lib.hid h3
    have HE := Lib.hid h.ext
    have HI := Lib.hid hinv
    rw [show (#[Value.string q] : Array Value).getD 0 undef = .string q from rfl]
    clear h h1 h2 h3 hinv hx hn hq HS0
    obtain ⟨i0, hi, hz0, hz1, hz2⟩ := info_parts Tryz.infoStr
    gi_wp2_with (gi_at_builtin; refine wpListIn_append_any _ rfl (.tmp 8) (.tmp 10) 29 rfl 9 i0 _ 1 16 Tryz.uStrs hi hz0 hz1 hz2 rfl (by decide) (.slice ad n cp) n _ rfl (own_ext HO.out ((ExtR W).alloc _)) ⟨W.heap.size, 0, none⟩ 1 1 [.string q] rfl rfl (news_blk (Blk.new W _)) (by simp [Value.oneCell']) (by unfold maxLen; omega) (by omega) ?_; intro v' w6 r1 r2 r3; obtain ⟨ad', cp', rfl⟩ := row_slice r1; have hV6 := (HV.out.alloc _).keeps r2 (fun e => by have := H3.out _ e; omega); have q56 : w6.cell? ⟨w.heap.size, 0, none⟩ = some (.slice ad n cp) := hV6.cell (i := 0) (by rfl); have f56 : w6.frozen? ⟨w.heap.size, 0, none⟩ = false := hV6.frozen)
    have r1' : w6.ownsRow 0 9 1 (.slice ad' (n + 1) cp') (s ++ [x]).length (((s ++ [x]).map keyB).map Value.string) := by
      rw [List.length_append, ← HN.out, List.map_append, List.map_append]
      have := r1; rw [HQ.out] at this; exact this
    have K6 : Keeps (fun b => (Value.slice ad n cp).ownBlock = some b) W w6 := ((Keeps.refl _ W).alloc _).trans r2
    have hv' : ∀ b, (Value.slice ad' (n + 1) cp').ownBlock = some b → w.heap.size + 4 ≤ b := fun b hb => by
      rcases r3 with r3 | r3
      · exact H3.out b (r3 ▸ hb)
      · have h9 := r3 b hb; rw [World.size_alloc] at h9; omega
    have K7 : Keeps (fun b => b = w.heap.size) w6 (w6.setCell ⟨w.heap.size, 0, none⟩ (.slice ad' (n + 1) cp')) := Keeps.oneSet w6 ⟨w.heap.size, 0, none⟩ _
    refine ⟨(K6.mono (fun y _ e => ?_)).trans (K7.mono (fun y _ e => ?_)), ?_⟩
    · have := H3.out y e; rw [hs1]; omega
    · have e : y = _ := e; rw [hs1]; omega
    · exact ⟨(HE.out.trans' K6 (fun y hy e => by have := H3.out y e; omega)).trans' K7 (fun y hy e => by have e : y = _ := e; omega), HI.out,
        _, hV6.set_same (i := 0) _, own_keeps r1' K7 (fun b hb e => by have := hv' b hb; omega), hv'⟩
  case hdone =>
    intro s W hdn h hd
    obtain ⟨v, h1, h2, h3⟩ := h.var
    obtain ⟨ad, cp, rfl⟩ := row_slice h2
    have q5 : W.cell? ⟨w.heap.size, 0, none⟩ = some (.slice ad s.length cp) := h1.cell (i := 0) (by rfl)
    have H2 := Lib.hid h2
    have H3 := Lib.hid h3
    have HX := Lib.hid h.ext
    have HI := Lib.hid h.inv
    have HDN := Lib.hid hdn
    have HD := Lib.hid hd
    clear h h1 h2 h3 hd hdn HS0
    gi_wp2_with fail
    refine ⟨by simp, .inl ⟨_, _, rfl, run_takeDeferred HD.out, ?_⟩⟩
    refine ⟨_, results_tmp rfl _ _ _, ?_⟩
    have hK := Keeps.onePut W w1.heap.size (.deferred none)
    exact ⟨.slice ad s.length cp, s, rfl, HI.out, HDN.out, ⟨_, _, rfl⟩, own_keeps H2.out hK (fun b hb e => by have := H3.out b hb; rw [hs1] at e; omega), HX.out.putObj (.inr (by omega)) _, fun b hb => by have := H3.out b hb; omega⟩
end
end Go.Proofs.YtolhikjjchfnjaaGreatDoor
/- canon: Sort of strings of one's own, Collect, Sorted, Keys. -/
namespace Go.Proofs.YtolhikjjchfnjaaGreatDoor
section
open Go Go.RowKit
set_option linter.unusedSimpArgs false
set_option linter.unusedVariables false
attribute [local go_sem] Oper.semAt_some
def sortS (l : List (List UInt8)) : List (List UInt8) := l.mergeSort fun x y => decide (x ≤ y)
def baL (l : List (List UInt8)) : List ByteArray := l.map fun x => ⟨x.toArray⟩
theorem sortS_len (l : List (List UInt8)) : (sortS l).length = l.length := by simp [sortS]
theorem sortS_perm {a b : List (List UInt8)} (h : a.Perm b) : sortS a = sortS b := by
  have tr : ∀ a b c : List UInt8, decide (a ≤ b) = true → decide (b ≤ c) = true → decide (a ≤ c) = true := fun a b c h1 h2 => by simp only [decide_eq_true_eq] at *; exact List.le_trans h1 h2
  have to : ∀ a b : List UInt8, (decide (a ≤ b) || decide (b ≤ a)) = true := fun a b => by simp only [Bool.or_eq_true, decide_eq_true_eq]; exact List.le_total a b
  refine List.Perm.eq_of_pairwise (le := fun x y => decide (x ≤ y) = true) (fun x y _ _ h1 h2 => by simp only [decide_eq_true_eq] at h1 h2; exact List.le_antisymm h1 h2) (List.pairwise_mergeSort tr to a) (List.pairwise_mergeSort tr to b) ?_
  exact (List.mergeSort_perm a _).trans (h.trans (List.mergeSort_perm b _).symm)
theorem keyB_map (s : List EntS) : (s.map keyB).map Value.string = (s.map (·.1)).map encStr := by
  rw [List.map_map, List.map_map]; rfl
theorem baL_map (l : List (List UInt8)) : (baL l).map Value.string = l.map encStr := by
  unfold baL; rw [List.map_map]; rfl
/-- A row of strings of one's own, sorted. -/
theorem sort_s {w0 w : World} {v : Value} {n : Nat} {ks : List (List UInt8)} (h : ORow 9 1 w0 w v n (ks.map encStr)) (hn : n ≤ 1000000) :
    Calls Tryz.prog 83 #[v] w fun e w' => e = .returned (.tuple #[]) ∧ ORow 9 1 w0 w' v n ((sortS ks).map encStr) := by
  have hl : ks.length = n := by have := h.len; simpa using this
  rcases h.own.2 with ⟨e0, _⟩ | ⟨g, cap, cur, e0, h3, h4, h5, h6, h7, h8⟩
  · subst e0
    obtain ⟨a, c, e⟩ := h.sl
    injection e with e1 e2 e3
    subst e2
    have : ks = [] := List.eq_nil_of_length_eq_zero hl
    subst this
    refine (Tryz.slices_Sort_string_none none 0 w).mono ?_
    rintro e w' ⟨rfl, rfl⟩
    exact ⟨rfl, by simpa [sortS] using h⟩
  · subst e0
    subst hl
    refine (Tryz.slices_Sort_string g 0 cap ks w (holds_of_block h4 (by simpa using h8)) (Array.getElem?_eq_some_iff.1 h4).1 (by omega)).mono ?_
    rintro e w' ⟨rfl, q, os, rfl⟩
    refine ⟨rfl, ⟨_, _, rfl⟩, ownsRow_sorted (sortS_len ks) (Nat.zero_le _) h4 h5 h6 h7, ?_, h.new⟩
    exact h.ext.trans' (Keeps.of_grown (F := fun b => b = g) (grownBy_sorted _) (fun r hr _ => by cases hr; rfl)) (fun x hx e => by have := h.new g rfl; omega)
set_option maxRecDepth 100000 in
set_option maxHeartbeats 4000000 in
theorem collect_c (w : World) (bx bm ck : Nat) (es : List EntS) (hk : KyS bx bm ck es w) (hnd : (es.map (·.2.2)).Nodup) (hlt : ∀ x ∈ es, x.2.2 < ck) (hlen : es.length ≤ 1000000) :
    Calls Tryz.prog 82 #[.func (.func 84) #[] #[.pointer (some ⟨bx, 0, none⟩)]] w fun e w' => ∃ u s, e = .returned u ∧ InvS es s ∧ KDone es s ∧ SRow w w' u s.length (s.map keyB) := by
  have HT := Lib.hid (appseq_c w bx bm ck es hk hnd hlt hlen)
  clear hk hnd hlt hlen
  go_enter Tryz.func82, Tryz.ntmps82
  go_wp2_with fail
  refine HT.out.mono ?_
  rintro e w1 ⟨u, s, rfl, h1, h2, h3⟩
  obtain ⟨a, c, rfl⟩ := h3.sl
  have H := Lib.hid (And.intro h1 (And.intro h2 h3))
  clear h1 h2 h3 HT
  go_wp2_with fail
  go_ret
  exact ⟨_, s, rfl, H.out⟩
set_option maxRecDepth 100000 in
set_option maxHeartbeats 4000000 in
theorem sorted_c (w : World) (bx bm ck : Nat) (es : List EntS) (hk : KyS bx bm ck es w) (hnd : (es.map (·.2.2)).Nodup) (hkn : (es.map (·.1)).Nodup) (hlt : ∀ x ∈ es, x.2.2 < ck) (hlen : es.length ≤ 1000000) :
    Calls Tryz.prog 49 #[.func (.func 84) #[] #[.pointer (some ⟨bx, 0, none⟩)]] w fun e w' => ∃ u, e = .returned u ∧ SRow w w' u es.length (baL (sortS (es.map (·.1)))) := by
  have HT := Lib.hid (collect_c w bx bm ck es hk hnd hlt hlen)
  have HP := Lib.hid (fun s (h1 : InvS es s) (h2 : KDone es s) => h1.perm h2 hnd hkn)
  have HL := Lib.hid hlen
  clear hk hnd hlt hlen hkn
  go_enter Tryz.func49, Tryz.ntmps49
  go_wp2_with fail
  refine HT.out.mono ?_
  rintro e w1 ⟨u, s, rfl, h1, h2, h3⟩
  obtain ⟨a, c, rfl⟩ := h3.sl
  have hp := HP.out s h1 h2
  have hsl : s.length = es.length := by simpa using hp.length_eq
  have h3' : ORow 9 1 w w1 (.slice a s.length c) s.length ((s.map (·.1)).map encStr) := by
    have h4 := h3
    unfold SRow at h4
    rw [keyB_map] at h4; exact h4
  have HS := Lib.hid (sort_s h3' (by have := HL.out; omega))
  rw [sortS_perm hp] at HS
  rw [hsl] at HS ⊢
  clear h1 h2 h3 h3' HT HP hp hsl
  go_wp2_with fail
  refine HS.out.mono ?_
  rintro e w2 ⟨rfl, h4⟩
  have H := Lib.hid h4
  clear h4 HS
  go_wp2_with fail
  go_ret
  refine ⟨_, rfl, ?_⟩
  unfold SRow
  rw [baL_map]; exact H.out
set_option maxRecDepth 100000 in
theorem mapkeys_c (w : World) (bm : Nat) : Calls Tryz.prog 50 #[.map (some bm)] w fun e w' => e = .returned (.func (.func 84) #[] #[.pointer (some ⟨w.heap.size, 0, none⟩)]) ∧ Blk w' w.heap.size (.cells #[.map (some bm)] 79) ∧ Ext w w' := by
  go_enter Tryz.func50, Tryz.ntmps50
  go_wp2_with fail
  go_ret
  exact ⟨rfl, Blk.new w _, (ExtR w).alloc _⟩
end
end Go.Proofs.YtolhikjjchfnjaaGreatDoor
/- canon: a map of entries as a list of pairs; plain. -/
namespace Go.Proofs.YtolhikjjchfnjaaGreatDoor
section
open Go Go.RowKit
set_option linter.unusedSimpArgs false
set_option linter.unusedVariables false
abbrev Pair.k (p : Pair) : List UInt8 := p.1.data.toList
def putM : List Pair → Pair → List Pair
  | [], p => [p]
  | q :: r, p => if p.k = q.k then p :: r else q :: putM r p
def delM : List Pair → ByteArray → List Pair
  | [], _ => []
  | q :: r, k => if k.data.toList = q.k then r else q :: delM r k
def valM (m : List Pair) (k : List UInt8) : ByteArray := ((m.find? (fun p => decide (k = p.k))).map (·.2)).getD ⟨#[]⟩
/-- The entries in order. -/
def sortM (m : List Pair) : List Pair := (sortS (m.map Pair.k)).map fun k => (⟨k.toArray⟩, valM m k)
def eKV (x : EntS) : List UInt8 × Value := (x.1, x.2.1)
def pKV (p : Pair) : List UInt8 × Value := (p.k, Pair.V p)
structure MapR (es : List EntS) (ck : Nat) (m : List Pair) : Prop where
  same : es.map eKV = m.map pKV
  born : (es.map (·.2.2)).Nodup
  lt : ∀ x ∈ es, x.2.2 < ck
  keys : (es.map (·.1)).Nodup
theorem MapR.nil (ck : Nat) : MapR [] ck [] := ⟨rfl, by simp, by simp, by simp⟩
theorem MapR.keysEq {es : List EntS} {ck : Nat} {m : List Pair} (h : MapR es ck m) : es.map (·.1) = m.map Pair.k := by
  have := congrArg (List.map Prod.fst) h.same
  rw [List.map_map, List.map_map] at this; exact this
theorem MapR.len {es : List EntS} {ck : Nat} {m : List Pair} (h : MapR es ck m) : es.length = m.length := by
  have := congrArg List.length h.same; simpa using this
theorem put_same (p : Pair) (n : Nat) : ∀ (es : List EntS) (m : List Pair), es.map eKV = m.map pKV → (entPut es p.k (Pair.V p) n).map eKV = (putM m p).map pKV
  | [], [], _ => rfl
  | [], _ :: _, h => by cases h
  | _ :: _, [], h => by cases h
  | x :: r, q :: s, h => by
    rw [List.map_cons, List.map_cons] at h
    injection h with h1 h2
    have hk : x.1 = q.k := congrArg Prod.fst h1
    unfold entPut putM
    rw [← hk]
    by_cases hp : p.k = x.1
    · rw [if_pos hp, if_pos hp, List.map_cons, List.map_cons, h2]; rfl
    · rw [if_neg hp, if_neg hp, List.map_cons, List.map_cons, put_same p n r s h2, h1]
theorem del_same (k : ByteArray) : ∀ (es : List EntS) (m : List Pair), es.map eKV = m.map pKV → (entDel es k.data.toList).map eKV = (delM m k).map pKV
  | [], [], _ => rfl
  | [], _ :: _, h => by cases h
  | _ :: _, [], h => by cases h
  | x :: r, q :: s, h => by
    rw [List.map_cons, List.map_cons] at h
    injection h with h1 h2
    have hk : x.1 = q.k := congrArg Prod.fst h1
    unfold entDel delM
    rw [← hk]
    by_cases hp : k.data.toList = x.1
    · rw [if_pos hp, if_pos hp, h2]
    · rw [if_neg hp, if_neg hp, List.map_cons, List.map_cons, del_same k r s h2, h1]
theorem get_cons (x : EntS) (r : List EntS) (k : List UInt8) : entGet (x :: r) k = if k = x.1 then some x.2.1 else entGet r k := by
  by_cases h : k = x.1 <;> simp [entGet, h]
theorem put_born (k : List UInt8) (v : Value) (n : Nat) : ∀ es : List EntS, (entPut es k v n).map (·.2.2) = if (entGet es k).isSome then es.map (·.2.2) else es.map (·.2.2) ++ [n]
  | [] => rfl
  | x :: r => by
    unfold entPut
    rw [get_cons]
    by_cases h : k = x.1
    · rw [if_pos h, if_pos h]; simp
    · rw [if_neg h, if_neg h, List.map_cons, put_born k v n r]
      cases (entGet r k).isSome <;> simp
theorem put_keys (k : List UInt8) (v : Value) (n : Nat) : ∀ es : List EntS, (entPut es k v n).map (·.1) = if (entGet es k).isSome then es.map (·.1) else es.map (·.1) ++ [k]
  | [] => rfl
  | x :: r => by
    unfold entPut
    rw [get_cons]
    by_cases h : k = x.1
    · rw [if_pos h, if_pos h]; simp [h]
    · rw [if_neg h, if_neg h, List.map_cons, put_keys k v n r]
      cases (entGet r k).isSome <;> simp
theorem get_none (k : List UInt8) : ∀ es : List EntS, (entGet es k).isSome = false → k ∉ es.map (·.1)
  | [], _ => by simp
  | x :: r, h => by
    rw [get_cons] at h
    by_cases hk : k = x.1
    · rw [if_pos hk] at h; cases h
    · rw [if_neg hk] at h
      have := get_none k r h
      simp only [List.map_cons, List.mem_cons, not_or]
      exact ⟨hk, this⟩
theorem MapR.put {es : List EntS} {ck : Nat} {m : List Pair} (h : MapR es ck m) (p : Pair) : MapR (entPut es p.k (Pair.V p) ck) (if (entGet es p.k).isSome then ck else ck + 1) (putM m p) := by
  have hb := put_born p.k (Pair.V p) ck es
  have hk := put_keys p.k (Pair.V p) ck es
  refine ⟨put_same p ck es m h.same, ?_, ?_, ?_⟩
  · rw [hb]
    split
    · exact h.born
    · rw [List.nodup_append]
      refine ⟨h.born, by simp, fun a ha b hb e => ?_⟩
      obtain ⟨x, hx, e1⟩ := List.mem_map.1 ha
      have := h.lt x hx
      simp at hb; omega
  · intro x hx
    have hm : x.2.2 ∈ (entPut es p.k (Pair.V p) ck).map (·.2.2) := List.mem_map.2 ⟨x, hx, rfl⟩
    rw [hb] at hm
    split at hm
    · rename_i hs
      rw [if_pos hs]
      obtain ⟨y, hy, e⟩ := List.mem_map.1 hm
      rw [← e]; exact h.lt y hy
    · rename_i hs
      rw [if_neg hs]
      rcases List.mem_append.1 hm with hm | hm
      · obtain ⟨y, hy, e⟩ := List.mem_map.1 hm
        have := h.lt y hy; omega
      · simp at hm; omega
  · rw [hk]
    split
    · exact h.keys
    · rename_i hs
      have hn := get_none p.k es (by simpa using hs)
      rw [List.nodup_append]
      exact ⟨h.keys, by simp, fun a ha b hb e => by simp at hb; subst hb; subst e; exact hn ha⟩
theorem del_sub (k : List UInt8) : ∀ es : List EntS, (entDel es k).Sublist es
  | [] => List.Sublist.refl _
  | x :: r => by
    unfold entDel
    split
    · exact List.sublist_cons_self _ _
    · exact (del_sub k r).cons_cons _
theorem MapR.del {es : List EntS} {ck : Nat} {m : List Pair} (h : MapR es ck m) (k : ByteArray) : MapR (entDel es k.data.toList) ck (delM m k) := by
  have hs := del_sub k.data.toList es
  exact ⟨del_same k es m h.same, h.born.sublist (hs.map _), fun x hx => h.lt x (hs.subset hx), h.keys.sublist (hs.map _)⟩
theorem get_find (k : List UInt8) : ∀ (es : List EntS) (m : List Pair), es.map eKV = m.map pKV → entGet es k = (m.find? (fun p => decide (k = p.k))).map Pair.V
  | [], [], _ => rfl
  | [], _ :: _, h => by cases h
  | _ :: _, [], h => by cases h
  | x :: r, q :: s, h => by
    rw [List.map_cons, List.map_cons] at h
    injection h with h1 h2
    have hk : x.1 = q.k := congrArg Prod.fst h1
    have hv : x.2.1 = Pair.V q := congrArg Prod.snd h1
    rw [get_cons, List.find?_cons, hk]
    by_cases hp : k = q.k
    · rw [if_pos hp]; simp [hp, hv]
    · rw [if_neg hp, get_find k r s h2]; simp [hp]
theorem MapR.get {es : List EntS} {ck : Nat} {m : List Pair} (h : MapR es ck m) {k : List UInt8} (hk : k ∈ m.map Pair.k) : entGet es k = some (Pair.V (⟨k.toArray⟩, valM m k)) := by
  rw [get_find k es m h.same]
  obtain ⟨p, hp, e⟩ := List.mem_map.1 hk
  cases hf : m.find? (fun p => decide (k = p.k)) with
  | none => exact absurd e.symm (by have := List.find?_eq_none.1 hf p hp; simpa using this)
  | some q =>
    have hq : k = q.k := by simpa using List.find?_some hf
    unfold valM
    rw [hf]
    have : (⟨k.toArray⟩ : ByteArray) = q.1 := by rw [hq]
    simp only [Option.map_some, Option.getD_some]
    rw [this]
/-- A change. -/
structure Chg where
  key : ByteArray
  value : ByteArray
  gone : Bool
def Chg.bad (c : Chg) : Bool := !keyedB c.key || (c.gone && decide (c.value.size ≠ 0)) || (!c.gone && !valuedB c.value)
def doM (m : List Pair) (c : Chg) : List Pair := if c.gone then delM m c.key else putM m (c.key, c.value)
def applyM (l : List Pair) (cs : List Chg) : List Pair := cs.foldl doM (l.foldl putM [])
/-- What Apply answers. -/
def applyE (l : List Pair) (cs : List Chg) : Int :=
  if checkN l ≠ 0 then checkN l else if cs.any Chg.bad = true then 1 else if (applyM l cs).length > 40 then 12 else 0
end
end Go.Proofs.YtolhikjjchfnjaaGreatDoor
/- canon: Apply. -/
namespace Go.Proofs.YtolhikjjchfnjaaGreatDoor
section
open Go Go.RowKit
set_option linter.unusedSimpArgs false
set_option linter.unusedVariables false
/-- A slice of changes that is read. -/
def RdC (w : World) (v : Value) (xs : List Chg) : Prop :=
  (∃ a c, v = .slice a 0 c ∧ xs = []) ∨ ∃ b o c, v = .slice (some ⟨b, o, none⟩) xs.length c ∧ b < w.heap.size ∧ xs.length ≤ c ∧ ∀ (j : Nat) x, xs[j]? = some x → w.cell? ⟨b, o + j * 3, none⟩ = some (.string x.key) ∧ w.cell? ⟨b, o + j * 3 + 1, none⟩ = some (.string x.value) ∧ w.cell? ⟨b, o + j * 3 + 2, none⟩ = some (.bool x.gone)
theorem RdC.ext {w w' : World} {v : Value} {xs : List Chg} (h : RdC w v xs) (k : Ext w w') : RdC w' v xs := by
  rcases h with h | ⟨b, o, c, h1, h2, h3, h4⟩
  · exact .inl h
  · exact .inr ⟨b, o, c, h1, Nat.lt_of_lt_of_le h2 k.size, h3, fun j x hx => ⟨cell_ext (h4 j x hx).1 k, cell_ext (h4 j x hx).2.1 k, cell_ext (h4 j x hx).2.2 k⟩⟩
theorem RdC.sl {w : World} {v : Value} {xs : List Chg} (h : RdC w v xs) : ∃ a c, v = .slice a xs.length c := by
  rcases h with ⟨a, c, h1, h2⟩ | ⟨b, o, c, h1, _⟩
  · exact ⟨a, c, by rw [h1, h2]; rfl⟩
  · exact ⟨_, c, h1⟩
theorem Tryz.infoEnt : (Tryz.prog.info? 52).map (fun i => (i.zero, i.size, i.bytes)) = some (some (.agg #[.string ⟨#[]⟩, .string ⟨#[]⟩]), 2, 32) := by kernel_rfl
theorem Tryz.uEnts : Tryz.prog.underlying 22 = some (.slice 52) := by kernel_rfl
theorem Tryz.sEnts : SInfo Tryz.prog 22 52 2 32 := SInfo.mk' Tryz.uEnts Tryz.infoEnt rfl (by decide)
theorem Tryz.makeMapSE (W : World) : (Instr.makeMap 79 none).run Tryz.prog W = .ok (.map (some W.heap.size)) (W.alloc (.map #[] 0)) := by kernel_rfl
theorem Tryz.zeroE (w : World) : (zeroValue 52).run Tryz.prog w = .ok (.agg #[.string ⟨#[]⟩, .string ⟨#[]⟩]) w := by kernel_rfl
abbrev ERow (w0 w : World) (v : Value) (n : Nat) (xs : List Pair) : Prop := ORow 52 2 w0 w v n (cellsP xs)
def ApplyP (w : World) (l : List Pair) (cs : List Chg) (e : Ending) (w' : World) : Prop :=
  if applyE l cs = 0 then ∃ r, e = .returned (.tuple #[r, .int .i64 0]) ∧ ERow w w' r (sortM (applyM l cs)).length (sortM (applyM l cs)) else e = .returned (.tuple #[.slice none 0 0, .int .i64 (applyE l cs)]) ∧ Ext w w'
theorem ApplyP.bad {w w' : World} {l : List Pair} {cs : List Chg} {x : Int} (h : applyE l cs = x) (h0 : x ≠ 0) (he : Ext w w') : ApplyP w l cs (.returned (.tuple #[.slice none 0 0, .int .i64 x])) w' := by
  unfold ApplyP; rw [h, if_neg h0]; exact ⟨rfl, he⟩
def ApRel1 (w : World) (cs : List Chg) (i : Value) (wr : World) : Prop := ∃ k : Nat, k ≤ cs.length ∧ i = .int .i64 k ∧ Ext w wr ∧ (cs.take k).any Chg.bad = false
def ApRel2 (w : World) (bm : Nat) (l : List Pair) (i : Value) (wr : World) : Prop := ∃ k : Nat, k ≤ l.length ∧ i = .int .i64 k ∧ Ext w wr ∧ ∃ es ck, Blk wr bm (.map (Tryz.ES.arr es) ck) ∧ MapR es ck ((l.take k).foldl putM [])
def ApRel3 (w : World) (bm : Nat) (l : List Pair) (cs : List Chg) (i : Value) (wr : World) : Prop := ∃ k : Nat, k ≤ cs.length ∧ i = .int .i64 k ∧ Ext w wr ∧ ∃ es ck, Blk wr bm (.map (Tryz.ES.arr es) ck) ∧ MapR es ck ((cs.take k).foldl doM (l.foldl putM []))
def ApRel4 (w5 : World) (M : List Pair) (v i : Value) (wr : World) : Prop := ∃ k : Nat, k ≤ M.length ∧ i = .int .i64 k ∧ ERow w5 wr v k ((sortM M).take k)
theorem any_take {cs : List Chg} {k : Nat} {c : Chg} (h : cs[k]? = some c) : (cs.take (k + 1)).any Chg.bad = ((cs.take k).any Chg.bad || c.bad) := by
  rw [List.take_add_one, h, List.any_append]; simp
theorem any_at {cs : List Chg} {k : Nat} {c : Chg} (h : cs[k]? = some c) (hb : c.bad = true) : cs.any Chg.bad = true := List.any_eq_true.2 ⟨c, List.mem_of_getElem? h, hb⟩
set_option maxRecDepth 100000 in
set_option maxHeartbeats 8000000 in
theorem apply_c (w : World) (v u : Value) (l : List Pair) (cs : List Chg) (hv : RdP w v l) (hu : RdC w u cs) (hn : l.length ≤ 9223372036854775807) (hnc : cs.length ≤ 1000000) (hs : ∀ p ∈ l, p.1.size ≤ 9223372036854775807 ∧ p.2.size ≤ 9223372036854775807) (hsc : ∀ c ∈ cs, c.key.size ≤ 9223372036854775807 ∧ c.value.size ≤ 9223372036854775807) :
    Calls Tryz.prog 23 #[v, u] w (ApplyP w l cs) := by
  have HCK := Lib.hid (check_c w v l hv hn hs)
  have HV := Lib.hid hv
  have HU := Lib.hid hu
  have HSC := Lib.hid hsc
  obtain ⟨a, c, hsl⟩ := hv.sl
  subst hsl
  obtain ⟨a', c', hsl'⟩ := hu.sl
  subst hsl'
  clear hv hu hs hsc
  by_cases hck : checkN l = 0
  case neg =>
    obtain ⟨x, hx⟩ : ∃ x, x = checkN l := ⟨_, rfl⟩
    have HB := Lib.hid (show applyE l cs = x by unfold applyE; rw [if_pos hck, hx])
    rw [← hx] at hck HCK
    have hne : (x == 0) = false := by simpa using hck
    have HX := Lib.hid hck
    clear hck hx HV HU HSC
    go_enter Tryz.func23, Tryz.ntmps23
    go_wp2_with fail
    refine HCK.out.mono ?_
    rintro e w1 ⟨rfl, hE⟩
    have HE := Lib.hid hE
    clear hE HCK
    go_wp2_with fail
    go_ret2
    exact ApplyP.bad HB.out HX.out HE.out
  rw [hck] at HCK
  have HL40 := Lib.hid (check_ok hck).len
  have HCK0 := Lib.hid hck
  clear hck
  go_enter Tryz.func23, Tryz.ntmps23
  go_wp2_with fail
  refine HCK.out.mono ?_
  rintro e w1 ⟨rfl, hE⟩
  have HE1 := Lib.hid hE
  clear hE HCK
  go_wp2_with fail
  go_loopw [24] (fun i wr => ApRel1 w cs i wr) (fun i _ => cs.length - (intOf i).toNat)
  case atStart => exact ⟨0, by omega, rfl, HE1.out, rfl⟩
  case round =>
    obtain ⟨k, hk, rfl, hE, hall⟩ := hrel
    have HE := Lib.hid hE
    have HALL := Lib.hid hall
    clear hE hall
    by_cases hlt : k < cs.length
    · rcases HU.out with ⟨_, _, _, h0⟩ | ⟨b, o, c1, hh, hb, hc, hcell⟩
      · rw [h0] at hlt; cases hlt
      cases hh
      obtain ⟨p, hp⟩ : ∃ p, cs[k]? = some p := ⟨_, List.getElem?_eq_getElem hlt⟩
      obtain ⟨q1, q2, q3⟩ := hcell k p hp
      have q1 := cell_ext q1 HE.out
      have q2 := cell_ext q2 HE.out
      have q3 := cell_ext q3 HE.out
      have hsp := HSC.out p (List.mem_of_getElem? hp)
      have b1 : (k : Int) < (cs.length : Int) := by omega
      have HP := Lib.hid hp
      obtain ⟨ky, vl, gn⟩ := p
      simp only at q1 q2 q3 hsp
      clear hcell hp hb hc
      have HBAD := Lib.hid (fun (h : Chg.bad ⟨ky, vl, gn⟩ = true) => (show applyE l cs = 1 by
        unfold applyE; rw [if_neg (by rw [HCK0.out]; simp), if_pos (any_at HP.out h)]))
      have HGO := Lib.hid (fun (h : Chg.bad ⟨ky, vl, gn⟩ = false) => (show (cs.take (k + 1)).any Chg.bad = false by rw [any_take HP.out, HALL.out, h]; rfl))
      have HEA := Lib.hid (HE.out.alloc (.cells #[.string ky, .string vl, .bool gn] 49))
      clear HP HALL
      go_wp2_with fail
      refine (keyed_c _ ky hsp.1).mono ?_
      rintro e w3 ⟨rfl, rfl⟩
      clear q1 q2 q3
      cases hky : keyedB ky with
      | false =>
        have HB := Lib.hid (HBAD.out (by unfold Chg.bad; simp [hky]))
        clear hky
        go_wp2_with fail
        go_ret2
        exact ApplyP.bad HB.out (by decide) HEA.out
      | true =>
        cases gn with
        | true =>
          by_cases hz : vl.size = 0
          · have := ba_empty hz
            subst this
            have HG := Lib.hid (HGO.out (by unfold Chg.bad; simp [hky]; rfl))
            clear hky hz
            go_wp2_with fail
            go_roundw
            case rel => exact ⟨k + 1, by omega, by go_num, HEA.out, HG.out⟩
            case measure => simp [intOf]; omega
          · have hne := ne_empty (s := vl) (by omega)
            have HB := Lib.hid (HBAD.out (by unfold Chg.bad; simp [hky, hz]))
            clear hky hz
            go_wp2_with fail
            go_ret2
            exact ApplyP.bad HB.out (by decide) HEA.out
        | false =>
          go_wp2_with fail
          refine (valued_c _ vl hsp.2).mono ?_
          rintro e w3 ⟨rfl, rfl⟩
          cases hvl : valuedB vl with
          | true =>
            have HG := Lib.hid (HGO.out (by unfold Chg.bad; simp [hky, hvl]))
            clear hky hvl
            go_wp2_with fail
            go_roundw
            case rel => exact ⟨k + 1, by omega, by go_num, HEA.out, HG.out⟩
            case measure => simp [intOf]; omega
          | false =>
            have HB := Lib.hid (HBAD.out (by unfold Chg.bad; simp [hky, hvl]))
            clear hky hvl
            go_wp2_with fail
            go_ret2
            exact ApplyP.bad HB.out (by decide) HEA.out
    · have hkn : k = cs.length := by omega
      have HB := Lib.hid (show cs.any Chg.bad = false by have h := HALL.out; rwa [hkn, List.take_length] at h)
      clear hkn HALL
      have hmm := Tryz.makeMapSE wr
      go_wp2_with fail
      obtain ⟨bm, hbm⟩ : ∃ bm, bm = wr.heap.size := ⟨_, rfl⟩
      have HBM := Lib.hid (show Blk (wr.alloc (.map #[] 0)) bm (.map #[] 0) by rw [hbm]; exact Blk.new wr _)
      have hbl : w.heap.size ≤ bm := by rw [hbm]; exact HE.out.size
      have HE2 := Lib.hid (HE.out.alloc (.map #[] 0))
      rw [← hbm]
      clear hmm hbm
      go_loopw [56] (fun i w2 => ApRel2 w bm l i w2) (fun i _ => l.length - (intOf i).toNat)
      case atStart => exact ⟨0, by omega, rfl, HE2.out, [], 0, HBM.out, MapR.nil 0⟩
      case round =>
        clear HE HE2 HBM HE1
        obtain ⟨j, hj, rfl, hE, es, ck, hM, hR⟩ := hrel
        have HE := Lib.hid hE
        have HR := Lib.hid hR
        by_cases hlt2 : j < l.length
        · rcases HV.out with ⟨_, _, _, h0⟩ | ⟨b, o, c1, hh, hb, hc, hcell⟩
          · rw [h0] at hlt2; cases hlt2
          cases hh
          obtain ⟨p, hp⟩ : ∃ p, l[j]? = some p := ⟨_, List.getElem?_eq_getElem hlt2⟩
          obtain ⟨q1, q2⟩ := hcell j p hp
          have q1 := cell_ext q1 HE.out
          have q2 := cell_ext q2 HE.out
          have b1 : (j : Int) < (l.length : Int) := by omega
          have HP := Lib.hid hp
          obtain ⟨x, y⟩ := p
          simp only at q1 q2
          have hM2 := hM.alloc (.cells #[.string x, .string y] 52)
          obtain ⟨es2, hes2⟩ : ∃ es2, es2 = entPut es x.data.toList (Pair.V (x, y)) ck := ⟨_, rfl⟩
          obtain ⟨ck2, hck2⟩ : ∃ ck2, ck2 = (if (entGet es x.data.toList).isSome then ck else ck + 1) := ⟨_, rfl⟩
          have hmu : (Instr.mapUpdate 79 (.map (some bm)) (.string x) (.agg #[.string x, .string y])).run Tryz.prog (wr.alloc (.cells #[.string x, .string y] 52)) = .ok () ((wr.alloc (.cells #[.string x, .string y] 52)).putObj bm (.map (Tryz.ES.arr es2) ck2)) := by
            have := run_mapUpdate Tryz.ES Tryz.uMapSE hM2 x.data.toList (Pair.V (x, y))
            rw [← hes2, ← hck2] at this; exact this
          have HR2 := Lib.hid (show MapR es2 ck2 ((l.take (j + 1)).foldl putM []) by
            rw [List.take_add_one, HP.out, List.foldl_append, hes2, hck2]; exact HR.out.put (x, y))
          have HB2 := Lib.hid (hM2.put_same (.map (Tryz.ES.arr es2) ck2))
          have HE3 := Lib.hid ((HE.out.alloc (.cells #[.string x, .string y] 52)).putObj (.inr hbl) (.map (Tryz.ES.arr es2) ck2))
          clear hcell hp hb hc hM hR hM2 hes2 hck2 hE HR HE
          go_wp2_with fail
          go_roundw
          case rel => exact ⟨j + 1, by omega, by go_num, HE3.out, es2, ck2, HB2.out, HR2.out⟩
          case measure => simp [intOf]; omega
        · have hjn : j = l.length := by omega
          have HR2 := Lib.hid (show MapR es ck (l.foldl putM []) by have h := HR.out; rwa [hjn, List.take_length] at h)
          have HM2 := Lib.hid hM
          have HE0 := Lib.hid hE
          clear hjn hM hR hE HR HE
          go_wp2_with fail
          go_loopw [67] (fun i w2 => ApRel3 w bm l cs i w2) (fun i _ => cs.length - (intOf i).toNat)
          case atStart => exact ⟨0, by omega, rfl, HE0.out, es, ck, HM2.out, HR2.out⟩
          case round =>
            clear HE0 HM2 HR2
            obtain ⟨q, hq, rfl, hE, es, ck, hM, hR⟩ := hrel
            have HE := Lib.hid hE
            have HR := Lib.hid hR
            by_cases hlt3 : q < cs.length
            · rcases HU.out with ⟨_, _, _, h0⟩ | ⟨b, o, c1, hh, hb, hc, hcell⟩
              · rw [h0] at hlt3; cases hlt3
              cases hh
              obtain ⟨p, hp⟩ : ∃ p, cs[q]? = some p := ⟨_, List.getElem?_eq_getElem hlt3⟩
              obtain ⟨q1, q2, q3⟩ := hcell q p hp
              have q1 := cell_ext q1 HE.out
              have q2 := cell_ext q2 HE.out
              have q3 := cell_ext q3 HE.out
              have b1 : (q : Int) < (cs.length : Int) := by omega
              have HP := Lib.hid hp
              obtain ⟨x, y, gn⟩ := p
              simp only at q1 q2 q3
              have hM2 := hM.alloc (.cells #[.string x, .string y, .bool gn] 49)
              have hst : (cs.take (q + 1)).foldl doM (l.foldl putM []) = doM ((cs.take q).foldl doM (l.foldl putM [])) ⟨x, y, gn⟩ := by
                rw [List.take_add_one, HP.out, List.foldl_append]; rfl
              have HST := Lib.hid hst
              cases gn with
              | true =>
                obtain ⟨es2, hes2⟩ : ∃ es2, es2 = entDel es x.data.toList := ⟨_, rfl⟩
                have hdl : (Builtin.delete_ #[79, 9] 0 #[.map (some bm), .string x]).run Tryz.prog (wr.alloc (.cells #[.string x, .string y, .bool true] 49)) = .ok (.tuple #[]) ((wr.alloc (.cells #[.string x, .string y, .bool true] 49)).putObj bm (.map (Tryz.ES.arr es2) ck)) := by
                  have := run_delete Tryz.ES Tryz.uMapSE hM2 x.data.toList 9 0
                  rw [← hes2] at this; exact this
                have HR2 := Lib.hid (show MapR es2 ck ((cs.take (q + 1)).foldl doM (l.foldl putM [])) by
                  rw [HST.out, hes2]; exact HR.out.del x)
                have HB2 := Lib.hid (hM2.put_same (.map (Tryz.ES.arr es2) ck))
                have HE3 := Lib.hid ((HE.out.alloc (.cells #[.string x, .string y, .bool true] 49)).putObj (.inr hbl) (.map (Tryz.ES.arr es2) ck))
                clear hcell hp hb hc hM hR hM2 hes2 hE HR HE hst HST
                go_wp2_with fail
                go_roundw
                case rel => exact ⟨q + 1, by omega, by go_num, HE3.out, es2, ck, HB2.out, HR2.out⟩
                case measure => simp [intOf]; omega
              | false =>
                obtain ⟨es2, hes2⟩ : ∃ es2, es2 = entPut es x.data.toList (Pair.V (x, y)) ck := ⟨_, rfl⟩
                obtain ⟨ck2, hck2⟩ : ∃ ck2, ck2 = (if (entGet es x.data.toList).isSome then ck else ck + 1) := ⟨_, rfl⟩
                have hmu : (Instr.mapUpdate 79 (.map (some bm)) (.string x) (.agg #[.string x, .string y])).run Tryz.prog (wr.alloc (.cells #[.string x, .string y, .bool false] 49)) = .ok () ((wr.alloc (.cells #[.string x, .string y, .bool false] 49)).putObj bm (.map (Tryz.ES.arr es2) ck2)) := by
                  have := run_mapUpdate Tryz.ES Tryz.uMapSE hM2 x.data.toList (Pair.V (x, y))
                  rw [← hes2, ← hck2] at this; exact this
                have HR2 := Lib.hid (show MapR es2 ck2 ((cs.take (q + 1)).foldl doM (l.foldl putM [])) by
                  rw [HST.out, hes2, hck2]; exact HR.out.put (x, y))
                have HB2 := Lib.hid (hM2.put_same (.map (Tryz.ES.arr es2) ck2))
                have HE3 := Lib.hid ((HE.out.alloc (.cells #[.string x, .string y, .bool false] 49)).putObj (.inr hbl) (.map (Tryz.ES.arr es2) ck2))
                clear hcell hp hb hc hM hR hM2 hes2 hck2 hE HR HE hst HST
                go_wp2_with fail
                go_roundw
                case rel => exact ⟨q + 1, by omega, by go_num, HE3.out, es2, ck2, HB2.out, HR2.out⟩
                case measure => simp [intOf]; omega
            · have hqn : q = cs.length := by omega
              obtain ⟨M, hMM⟩ : ∃ M, M = applyM l cs := ⟨_, rfl⟩
              have HRM := Lib.hid (show MapR es ck M by have h := HR.out; rw [hqn, List.take_length] at h; rw [hMM]; exact h)
              have HMM := Lib.hid hMM
              have hln := run_len_map Tryz.ES Tryz.uMapSE hM
              rw [HRM.out.len] at hln
              have HMB := Lib.hid hM
              have HEF := Lib.hid hE
              clear hqn hM hR hE HR HE hMM
              by_cases h40 : 40 < M.length
              · have b40 : (40 : Int) < (M.length : Int) := by omega
                have HAP := Lib.hid (show applyE l cs = 12 by unfold applyE; rw [if_neg (by rw [HCK0.out]; simp), HB.out, ← HMM.out]; simp [h40])
                clear h40
                go_wp2_with fail
                go_ret2
                exact ApplyP.bad HAP.out (by decide) HEF.out
              · have b40 : ¬ (40 : Int) < (M.length : Int) := by omega
                have HAP := Lib.hid (show applyE l cs = 0 by unfold applyE; rw [if_neg (by rw [HCK0.out]; simp), HB.out, ← HMM.out]; simp [h40])
                have hm40 : M.length ≤ 40 := by omega
                clear h40
                go_wp2_with fail
                refine (mapkeys_c wr bm).mono ?_
                rintro e w4 ⟨rfl, hbx, hE4⟩
                have HBX := Lib.hid hbx
                have HMB4 := Lib.hid (HMB.out.keeps hE4 (fun h => h))
                have HE4 := Lib.hid (HEF.out.trans hE4)
                clear hbx hE4 hln
                go_wp2_with fail
                refine (sorted_c w4 wr.heap.size bm ck es ⟨HBX.out, HMB4.out⟩ HRM.out.born HRM.out.keys HRM.out.lt (by have := HRM.out.len; omega)).mono ?_
                rintro e w5 ⟨u, rfl, hS⟩
                rw [HRM.out.keysEq, HRM.out.len] at hS
                obtain ⟨KS, hKS⟩ : ∃ KS, KS = sortS (M.map Pair.k) := ⟨_, rfl⟩
                rw [← hKS] at hS
                have hKl : KS.length = M.length := by rw [hKS, sortS_len, List.length_map]
                have HK := Lib.hid hKS
                have HKL := Lib.hid hKl
                obtain ⟨a6, c6, rfl⟩ := hS.sl
                have HRD := Lib.hid hS.rd
                have HE5 := Lib.hid (HE4.out.trans hS.ext)
                have HMB5 := Lib.hid (HMB4.out.keeps hS.ext (fun h => h))
                have HSM := Lib.hid (show (sortM M).length = M.length by unfold sortM; rw [List.length_map, sortS_len, List.length_map])
                clear hS hKS hKl HMB4 HE4 HBX HEF HMB
                go_wp2_with fail
                go_loopw [14, 92] (fun v i wr => ApRel4 w5 M v i wr) (fun _ i _ => M.length - (intOf i).toNat)
                case atStart => exact ⟨0, by omega, rfl, ORow.nil _ _ (ExtR w5)⟩
                case round =>
                  obtain ⟨t, ht, rfl, hR⟩ := hrel
                  obtain ⟨a7, c7, rfl⟩ := hR.sl
                  have HR := Lib.hid hR
                  clear hR
                  by_cases hlt4 : t < M.length
                  · obtain ⟨kk, hkk⟩ : ∃ kk, KS[t]? = some kk := ⟨_, List.getElem?_eq_getElem (by rw [HKL.out]; exact hlt4)⟩
                    obtain ⟨x, hx⟩ : ∃ x : ByteArray, x = ⟨kk.toArray⟩ := ⟨_, rfl⟩
                    obtain ⟨y, hy⟩ : ∃ y, y = valM M kk := ⟨_, rfl⟩
                    obtain ⟨_, _, hh, hcell⟩ := HRD.out.slice
                    obtain ⟨b, o, hao, hc0⟩ := hcell t x (by unfold baL; rw [List.getElem?_map, hkk, hx]; rfl)
                    obtain ⟨e1, e2, e3⟩ := Value.slice.inj hh
                    subst e1
                    subst e3
                    subst hao
                    clear hh e2
                    have q1 := cell_ext hc0 HR.out.ext
                    have hmem : kk ∈ M.map Pair.k := by
                      have h1 := List.mem_of_getElem? hkk
                      rw [HK.out] at h1
                      exact (List.mergeSort_perm _ _).mem_iff.1 h1
                    have hlk : (Instr.lookup 79 (.map (some bm)) (.string x) false).run Tryz.prog wr = .ok (.agg #[.string x, .string y]) wr := by
                      have := run_lookup Tryz.ES Tryz.uMapSE (HMB5.out.keeps HR.out.ext (fun h => h)) (Tryz.zeroE wr) kk false
                      rw [HRM.out.get hmem, ← hx, ← hy] at this
                      rw [hx]; rw [hx] at this; exact this
                    have hst : (sortM M).take (t + 1) = (sortM M).take t ++ [(x, y)] := by
                      rw [List.take_add_one]
                      have : (sortM M)[t]? = some (x, y) := by
                        unfold sortM; rw [← HK.out, List.getElem?_map, hkk, hx, hy]; rfl
                      rw [this]; rfl
                    have HST := Lib.hid hst
                    have b1 : (t : Int) < (M.length : Int) := by omega
                    clear hcell hc0 hmem hst hkk hx hy
                    go_wp2_with (at_builtin; refine wpList_app Tryz.sEnts (HR.out.mono ((ExtR wr).alloc _)) (.tmp 96) (.tmp 100) rfl rfl rfl (news_blk (Blk.new wr _)) (news := [.string x, .string y]) (by intro u hu; simp at hu; rcases hu with rfl | rfl <;> rfl) rfl rfl ?c1 ?c2 (fun v' w' r1 r2 r3 => ?_))
                    case c1 => unfold maxLen; omega
                    case c2 => omega
                    have r1' : ERow w5 w' v' (t + 1) ((sortM M).take (t + 1)) := by unfold ERow; rw [HST.out, cellsP_append]; exact r1
                    obtain ⟨a8, c8, rfl⟩ := r1'.sl
                    have HR5 := Lib.hid r1'
                    clear r1 r2 r3 r1' HR
                    go_wp2_with fail
                    go_roundw
                    case rel => exact ⟨t + 1, by omega, by go_num, HR5.out⟩
                    case measure => simp [intOf]; omega
                  · have htm : t = M.length := by omega
                    have HRF := Lib.hid (show ERow w wr (.slice a7 t c7) (sortM M).length (sortM M) by
                      have h := HR.out
                      rw [show (sortM M).take t = sortM M from by rw [htm, ← HSM.out, List.take_length]] at h
                      have h2 : ERow w5 wr (.slice a7 t c7) (sortM M).length (sortM M) := by rw [HSM.out, ← htm]; exact h
                      exact ⟨by rw [HSM.out, ← htm]; exact ⟨_, _, rfl⟩, h2.own, HE5.out.trans h2.ext, fun b hb => Nat.le_trans HE5.out.size (h2.new b hb)⟩)
                    clear htm HR
                    go_wp2_with fail
                    go_ret2
                    unfold ApplyP
                    rw [if_pos HAP.out, ← HMM.out]
                    exact ⟨_, rfl, HRF.out⟩
end
end Go.Proofs.YtolhikjjchfnjaaGreatDoor
