/- Parts of the proof, one behind the other: DropD, CntA, CntC, CntB, CountsP. Each is under no condition but those that it states. -/
import Derived.Test.YtjogjmffkmfmbaaGreatDoorPc35
import Derived.Test.YtjogjmffkmfmbaaGreatDoorPc40
import Derived.Test.YtjogjmffkmfmbaaGreatDoorPc37
import Derived.Test.YtjogjmffkmfmbaaGreatDoorPc38
import Derived.Test.YtjogjmffkmfmbaaGreatDoorPc41
import Derived.WalkKit
import Derived.ProofKit
import Derived.OpenShut
import Derived.Lib.SmallJoins
import Derived.Deep.DeepHandedRow
import Derived.Lay
import Derived.Carry
import Derived.ChangeMaps5
/- store, plain: Add of any nodes keeps the counts. -/
namespace Go.Proofs.YtjogjmffkmfmbaaGreatDoor
section
open Go Go.RowKit
set_option linter.unusedSimpArgs false
set_option linter.unusedVariables false
theorem addS_refs {S G : List Nd5} {M : List ByteArray} {top : ByteArray} : refsS (addS S G M top) = refsS S ++ (frK S M).flatMap (refsO G) := by
  rw [addS_is]
  have h := both_refs ((frK S M).flatMap (refsO G)) (shaB top) (S ++ picks G (frK S M))
  unfold refsS
  rw [h, List.flatMap_append, ← picks_refs]
theorem addS_keys2 {S G : List Nd5} {M : List ByteArray} {top : ByteArray} : (addS S G M top).map (·.1) = (S ++ picks G (frK S M)).map (·.1) := by rw [addS_is, both_keys]
theorem cnt_add {S G : List Nd5} {L M : List ByteArray} {top : ByteArray} (hc : Cnt S) (hG : G.map kvI = readG L) (hf : Fair G) (hP : Path2 S G (shaB top) M (frK S M).length) : Cnt (addS S G M top) := by
  have hTM : ∀ r ∈ (frK S M).flatMap (refsO G), r ∈ M := fun r hr => by
    have := hP.is
    rw [List.take_length] at this
    rw [this]; exact List.mem_cons_of_mem _ hr
  refine ⟨fun x hx => ?_, fun r hr => ?_, fun x hx => ?_, fun x hx => ?_⟩
  · rw [addS_refs, cK_app]
    rw [addS_is] at hx
    obtain ⟨z, hz, rfl⟩ := List.mem_map.1 hx
    show z.2.2.used + ((cK ((frK S M).flatMap (refsO G)) z.1 : Nat) : Int) = ((cK (refsS S) z.1 + cK ((frK S M).flatMap (refsO G)) z.1 : Nat) : Int)
    rcases List.mem_append.1 hz with hz | hz
    · have := hc.used z hz; omega
    · obtain ⟨hzG, f, hf1, e1⟩ := picks_mem hz
      obtain ⟨t, ht, _, e⟩ := given_is hG hzG
      have h0 : cK (refsS S) z.1 = 0 := cK_none fun r hr er => by
        have := hc.shut r hr
        rw [er, e1, ← has_iff, (frK_mem.1 hf1).2] at this
        cases this
      have hu : z.2.2.used = 0 := by rw [e]; rfl
      omega
  · rw [addS_keys2]
    rw [addS_refs] at hr
    rcases List.mem_append.1 hr with hr | hr
    · rw [List.map_append]; exact List.mem_append_left _ (hc.shut r hr)
    · exact has_iff.1 (s1_has2 hP (hTM r hr))
  · rw [addS_is] at hx
    obtain ⟨z, hz, rfl⟩ := List.mem_map.1 hx
    show 0 ≤ z.2.2.held + ((cK [shaB top] z.1 : Nat) : Int)
    rcases List.mem_append.1 hz with hz | hz
    · have := hc.held z hz; omega
    · obtain ⟨t, ht, _, e⟩ := given_is hG (picks_mem hz).1
      have hu : z.2.2.held = 0 := by rw [e]; rfl
      omega
  · rw [addS_is] at hx
    obtain ⟨z, hz, rfl⟩ := List.mem_map.1 hx
    show z.2.2.refs.length ≤ 16
    rcases List.mem_append.1 hz with hz | hz
    · exact hc.r16 z hz
    · exact hf.refs z (picks_mem hz).1
theorem full_add {S G : List Nd5} {L M : List ByteArray} {top : ByteArray} (hc : Cnt S) (hfl : FullS S) (hG : G.map kvI = readG L) (hP : Path2 S G (shaB top) M (frK S M).length) : FullS (addS S G M top) := fun x hx => by
  rw [addS_is] at hx
  obtain ⟨z, hz, rfl⟩ := List.mem_map.1 hx
  show 0 < z.2.2.used + ((cK ((frK S M).flatMap (refsO G)) z.1 : Nat) : Int) + (z.2.2.held + ((cK [shaB top] z.1 : Nat) : Int))
  rcases List.mem_append.1 hz with hz | hz
  · have := hfl z hz; omega
  · obtain ⟨hzG, f, hf1, e1⟩ := picks_mem hz
    obtain ⟨t, ht, _, e⟩ := given_is hG hzG
    have hu : z.2.2.used = 0 := by rw [e]; rfl
    have hh : z.2.2.held = 0 := by rw [e]; rfl
    have hm := (frK_mem.1 hf1).1
    have := hP.is
    rw [List.take_length] at this
    rw [this] at hm
    rcases List.mem_cons.1 hm with h | h
    · have : 1 ≤ cK [shaB top] z.1 := by rw [e1, h]; exact cK_pos (by simp)
      omega
    · have : 1 ≤ cK ((frK S M).flatMap (refsO G)) z.1 := by rw [e1]; exact cK_pos h
      omega
theorem sum_both (T : List ByteArray) (r : ByteArray) (S : List Nd5) : heldS (S.map (bothU T r)) = heldS S + ((S.map (·.1)).count r.data.toList : Int) := by
  induction S with
  | nil => simp [heldS]
  | cons x l ih =>
    have e : ∀ (a : Nd5) b, heldS (a :: b) = a.2.2.held + heldS b := fun a b => by unfold heldS; rw [List.map_cons, List.sum_cons]
    rw [List.map_cons, e, e, ih, List.map_cons, List.count_cons]
    have h1 : (bothU T r x).2.2.held = x.2.2.held + ((cK [r] x.1 : Nat) : Int) := rfl
    have h2 : cK [r] x.1 = if x.1 = r.data.toList then 1 else 0 := by
      have := cK_cons r [] x.1
      rw [this]; simp [cK]
    rw [h1, h2]
    by_cases hx : x.1 = r.data.toList
    · rw [if_pos hx, if_pos (by simp [hx])]; push_cast; omega
    · rw [if_neg hx, if_neg (by simpa using hx)]; push_cast; omega
theorem sum_app (A B : List Nd5) : heldS (A ++ B) = heldS A + heldS B := by unfold heldS; rw [List.map_append, List.sum_append]
theorem sum_zero : ∀ {B : List Nd5}, (∀ x ∈ B, x.2.2.held = 0) → heldS B = 0
  | [], _ => rfl
  | x :: r, h => by
    have e : heldS (x :: r) = x.2.2.held + heldS r := by unfold heldS; rw [List.map_cons, List.sum_cons]
    rw [e, h x List.mem_cons_self, sum_zero fun y hy => h y (List.mem_cons_of_mem _ hy)]; rfl
theorem count_one : ∀ {l : List Key}, l.Nodup → ∀ {k : Key}, k ∈ l → l.count k = 1
  | [], _, _, hk => by cases hk
  | x :: r, h, k, hk => by
    rw [List.nodup_cons] at h
    rw [List.count_cons]
    by_cases e : x = k
    · subst e
      rw [List.count_eq_zero_of_not_mem h.1]; simp
    · have hk : k ∈ r := (List.mem_cons.1 hk).resolve_left fun e2 => e e2.symm
      rw [count_one h.2 hk]; simp [e]
theorem sum_add {S G : List Nd5} {L M : List ByteArray} {top : ByteArray} (hn : ((addS S G M top).map (·.1)).Nodup) (hG : G.map kvI = readG L) (hP : Path2 S G (shaB top) M (frK S M).length) : heldS (addS S G M top) = heldS S + 1 := by
  have hroot : (shaB top).data.toList ∈ (S ++ picks G (frK S M)).map (·.1) := has_iff.1 (s1_has2 hP (by rw [hP.is]; exact List.mem_cons_self))
  rw [addS_keys2] at hn
  rw [addS_is, sum_both, sum_app, sum_zero (B := picks G (frK S M)) (fun x hx => by
    obtain ⟨t, ht, _, e⟩ := given_is hG (picks_mem hx).1
    rw [e]; rfl), count_one hn hroot]
  omega
theorem len_add {S G : List Nd5} {M : List ByteArray} {top : ByteArray} : (addS S G M top).length ≤ S.length + (frK S M).length := by
  rw [addS_is, List.length_map, List.length_append]
  have : (picks G (frK S M)).length ≤ (frK S M).length := List.length_filterMap_le _ _
  omega
theorem held_add {S G : List Nd5} {L M : List ByteArray} {top : ByteArray} {n : Int} (h : ∀ x ∈ S, x.2.2.held ≤ n) (h0 : 0 ≤ n) (hG : G.map kvI = readG L) : ∀ x ∈ addS S G M top, x.2.2.held ≤ n + 1 := fun x hx => by
  rw [addS_is] at hx
  obtain ⟨z, hz, rfl⟩ := List.mem_map.1 hx
  show z.2.2.held + ((cK [shaB top] z.1 : Nat) : Int) ≤ n + 1
  have h1 := cK_le [shaB top] z.1
  rw [List.length_singleton] at h1
  rcases List.mem_append.1 hz with hz | hz
  · have := h z hz; omega
  · obtain ⟨t, ht, _, e⟩ := given_is hG (picks_mem hz).1
    have hu : z.2.2.held = 0 := by rw [e]; rfl
    omega
end
end Go.Proofs.YtjogjmffkmfmbaaGreatDoor
/- law 06: StoreCounts, what stays from act to act. -/
namespace Go.Proofs.YtjogjmffkmfmbaaGreatDoor
section
open Go Go.RowKit
set_option linter.unusedSimpArgs false
set_option linter.unusedVariables false
attribute [local go_sem] Oper.semAt_some
structure CtS (W0 : World) (s bm n : Nat) (S : List Nd5) (W : World) : Prop where
  st : StoreAt W s bm 1000 S
  cnt : Cnt S
  full : FullS S
  len : S.length ≤ 1000
  hb : ∀ x ∈ S, x.2.2.held ≤ n
  sum : heldS S ≤ n
  ext : Ext W0 W
  bnew : W0.heap.size ≤ bm
  snew : ∀ x ∈ S, W0.heap.size ≤ x.2.1
/-- A row of texts of one's own, in whose block no row of the store's lies. -/
structure RtS (W0 : World) (S : List Nd5) (T : List ByteArray) (v : Value) (W : World) : Prop where
  row : W.ownsRow 0 9 1 v T.length (T.map Value.string)
  new : ∀ c, v.ownBlock = some c → W0.heap.size ≤ c
  free : ∀ c, v.ownBlock = some c → ∀ x ∈ S, ¬ RowOf W x.2.1 c
theorem heldS_pos {S : List Nd5} (h : ∀ x ∈ S, 0 ≤ x.2.2.held) : 0 ≤ heldS S := by
  induction S with
  | nil => exact Int.le_refl _
  | cons x r ih =>
    have e : heldS (x :: r) = x.2.2.held + heldS r := by unfold heldS; rw [List.map_cons, List.sum_cons]
    rw [e]
    have := ih fun y hy => h y (List.mem_cons_of_mem _ hy)
    have := h x List.mem_cons_self
    omega
theorem store_noRow {W : World} {s bm : Nat} {room : Int} {S : List Nd5} (h : StoreAt W s bm room S) : NoRow W (fun z => z = bm ∨ z ∈ S.map (·.2.1)) := fun z cur fz e hz => by
  rcases e with e | e
  · exact h.mp.notRow z cur fz e hz
  · obtain ⟨x, hx, e⟩ := List.mem_map.1 e
    obtain ⟨rv, hb, _⟩ := (h.mp.items x hx).cells
    have e : x.2.1 = z := e
    rw [e] at hb
    have := hb.uniq hz; injection this with _ h2; exact absurd h2 (by decide)
theorem rowOf_lt {W : World} {s bm : Nat} {room : Int} {S : List Nd5} (h : StoreAt W s bm room S) {x : Nd5} (hx : x ∈ S) {c : Nat} (r : RowOf W x.2.1 c) : c < W.heap.size := by
  obtain ⟨rv, r1, r2⟩ := r
  obtain ⟨rv', hb, hr⟩ := (h.mp.items x hx).cells
  have := hb.cell (i := 1) (v := rv') (by rfl)
  rw [this] at r1
  obtain rfl := Option.some.inj r1
  exact (World.ownsRow.lt hr c r2).2
/-- What is written in a block of texts without rows of the store's leaves the store. -/
theorem StoreAt.beside {W W' : World} {s bm : Nat} {room : Int} {S : List Nd5} {F : BSet} (h : StoreAt W s bm room S) (k : Keeps F W W') (hF : ∀ c, F c → ∃ cur fz, Blk W c (.cells cur 9 fz)) (hf : ∀ c, F c → ∀ x ∈ S, ¬ RowOf W x.2.1 c) : StoreAt W' s bm room S := by
  obtain ⟨es, ck, h1, h2⟩ := h.mp.mp
  refine ⟨h.st.keeps k (fun f => ?_), ⟨es, ck, h1.keeps k (fun f => ?_), h2⟩, h.mp.blks, fun x hx => ?_⟩
  · obtain ⟨cur, fz, hb⟩ := hF s f
    have := h.st.uniq hb; injection this with _ h2; exact absurd h2 (by decide)
  · obtain ⟨cur, fz, hb⟩ := hF bm f
    have := h1.uniq hb; cases this
  · obtain ⟨rv, hb, hr⟩ := (h.mp.items x hx).cells
    refine ⟨rv, hb.keeps k (fun f => ?_), own_keeps hr k (fun c hc f => hf c f x hx ⟨rv, hb.cell (i := 1) (by rfl), hc⟩)⟩
    obtain ⟨cur, fz, hb2⟩ := hF x.2.1 f
    have := hb.uniq hb2; injection this with _ h2; exact absurd h2 (by decide)
theorem own_blkS {W : World} {v : Value} {n : Nat} {xs : List Value} {B c : Nat} (h : W.ownsRow B 9 1 v n xs) (hc : v.ownBlock = some c) : ∃ cur fz, Blk W c (.cells cur 9 fz) := by
  obtain ⟨_, ⟨h1, _⟩ | ⟨g, cap, cur, h1, _, h3, _⟩⟩ := h
  · rw [h1] at hc; cases hc
  · rw [h1] at hc
    have e : some g = some c := hc
    obtain rfl := Option.some.inj e
    exact ⟨cur, _, h3⟩
/-- A text more. -/
theorem rt_app {W0 W W3 w6 : World} {s bm n : Nat} {S : List Nd5} {T : List ByteArray} {v v' : Value} {r : ByteArray} (hS : CtS W0 s bm n S W) (hT : RtS W0 S T v W) (e3 : Ext W W3)
    (r1 : w6.ownsRow 0 9 1 v' (T.length + 1) (T.map Value.string ++ [.string r])) (r2 : Keeps (fun b => v.ownBlock = some b) W3 w6) (r3 : v'.ownBlock = v.ownBlock ∨ ∀ b, v'.ownBlock = some b → W3.heap.size ≤ b) :
    CtS W0 s bm n S w6 ∧ RtS W0 S (T ++ [r]) v' w6 := by
  have hst3 := hS.st.ext e3
  have hrow3 := own_ext hT.row e3
  have hfr3 : ∀ c, v.ownBlock = some c → ∀ x ∈ S, ¬ RowOf W3 x.2.1 c := fun c hc x hx f => hT.free c hc x hx (((RK.refl W).ext e3).2 _ ((hS.st.mp.items x hx).lt) c f)
  have hst6 := hst3.beside r2 (fun c hc => own_blkS hrow3 hc) hfr3
  have hrk : ∀ x ∈ S, ∀ c, RowOf w6 x.2.1 c → RowOf W3 x.2.1 c := fun x hx c f => by
    obtain ⟨rv, f1, f2⟩ := f
    refine ⟨rv, ?_, f2⟩
    rw [← f1]
    refine (cell_heap (r2.block _ (hst3.mp.items x hx).lt (fun hb => ?_))).symm
    obtain ⟨cur, fz, hb2⟩ := own_blkS hrow3 hb
    obtain ⟨rv2, hb3, _⟩ := (hst3.mp.items x hx).cells
    have := hb3.uniq hb2; injection this with _ h2; exact absurd h2 (by decide)
  have hx6 : Ext W0 w6 := (hS.ext.trans e3).trans' r2 (fun x hx f => by have := hT.new x f; omega)
  refine ⟨⟨hst6, hS.cnt, hS.full, hS.len, hS.hb, hS.sum, hx6, hS.bnew, hS.snew⟩, ⟨?_, fun c hc => ?_, fun c hc x hx f => ?_⟩⟩
  · rw [List.length_append, List.map_append]; exact r1
  · rcases r3 with h | h
    · exact hT.new c (h ▸ hc)
    · have := h c hc; have := (hS.ext.trans e3).size; omega
  · rcases r3 with h | h
    · exact hfr3 c (h ▸ hc) x hx (hrk x hx c f)
    · have h1 := h c hc
      have h2 := rowOf_lt hst3 hx (hrk x hx c f)
      omega
/-- Nodes are added. -/
theorem ct_add {W0 w w' : World} {s bm n : Nat} {S : List Nd5} {T L : List ByteArray} {v : Value} {top : ByteArray} {G : List Nd5} {M : List ByteArray} {e : Ending} (hS : CtS W0 s bm n S w) (hT : RtS W0 S T v w) (hl : L.length ≤ 1000) (h : AddY w s bm 1000 S L top G M e w') :
    CtS W0 s bm (n + 1) (addS S G M top) w' ∧ RtS W0 (addS S G M top) T v w' ∧ heldS (addS S G M top) = heldS S + 1 := by
  have hf := given_fair h.given h.nodes hl
  have hst : StoreAt w' s bm 1000 (addS S G M top) := h.st
  have hsum := sum_add hst.nd h.given h.path
  have hmem : ∀ x ∈ addS S G M top, (∃ y ∈ S, x.2.1 = y.2.1) ∨ ∃ y ∈ G, x.2.1 = y.2.1 := fun x hx => by
    rw [addS_is] at hx
    obtain ⟨z, hz, rfl⟩ := List.mem_map.1 hx
    rcases List.mem_append.1 hz with hz | hz
    · exact .inl ⟨z, hz, rfl⟩
    · exact .inr ⟨z, (picks_mem hz).1, rfl⟩
  refine ⟨⟨hst, cnt_add hS.cnt h.given hf h.path, full_add hS.cnt hS.full h.given h.path, ?_, fun x hx => ?_, ?_, ?_, hS.bnew, fun x hx => ?_⟩, ⟨row_keeps hT.row h.kp (store_noRow hS.st), hT.new, fun c hc x hx f => ?_⟩, hsum⟩
  · have := len_add (S := S) (G := G) (M := M) (top := top)
    have := h.fits
    omega
  · have := held_add hS.hb (by omega) h.given (M := M) (top := top) x hx
    omega
  · have := hS.sum; omega
  · refine hS.ext.trans' h.kp (fun x hx f => ?_)
    rcases f with rfl | f
    · have := hS.bnew; omega
    · obtain ⟨y, hy, rfl⟩ := List.mem_map.1 f
      have := hS.snew y hy; omega
  · rcases hmem x hx with ⟨y, hy, e⟩ | ⟨y, hy, e⟩
    · rw [e]; exact hS.snew y hy
    · rw [e]; have := h.news y hy; have := hS.ext.size; omega
  · rcases hmem x hx with ⟨y, hy, e⟩ | ⟨y, hy, e⟩
    · rw [e] at f
      exact hT.free c hc y hy (h.rk.2 _ (hS.st.mp.items y hy).lt c f)
    · rw [e] at f
      have h1 := h.rows y hy c f
      have h2 := (World.ownsRow.lt hT.row c hc).2
      omega
/-- A root is dropped. -/
theorem ct_drop {W0 w w' : World} {s bm n : Nat} {S S' : List Nd5} {T : List ByteArray} {v : Value} {y : Nd5} (hS : CtS W0 s bm n S w) (hT : RtS W0 S T v w) (h : DropY w s bm 1000 S S' y w') (hy : y ∈ S) :
    CtS W0 s bm n S' w' ∧ RtS W0 S' T v w' := by
  have hmem : ∀ x ∈ S', ∃ z ∈ S, x.2.1 = z.2.1 := fun x hx => by
    obtain ⟨u, hu, _, e, _⟩ := h.sub x hx
    obtain ⟨z, hz, rfl⟩ := List.mem_map.1 hu
    exact ⟨z, hz, by rw [e, (setB3_used _ _ z).2.2.2.2]⟩
  refine ⟨⟨h.st, h.cnt, h.full, Nat.le_trans h.len hS.len, fun x hx => ?_, ?_, ?_, hS.bnew, fun x hx => ?_⟩, ⟨row_keeps hT.row h.kp (store_noRow hS.st), hT.new, fun c hc x hx f => ?_⟩⟩
  · obtain ⟨u, hu, _, _, _, _, e⟩ := h.sub x hx
    obtain ⟨z, hz, rfl⟩ := List.mem_map.1 hu
    rw [e]
    have h1 := hS.hb z hz
    have h2 := hS.hb y hy
    unfold setB putF
    split
    · show y.2.2.held - 1 ≤ n; omega
    · exact h1
  · have := h.sum; have := hS.sum; omega
  · refine hS.ext.trans' h.kp (fun x hx f => ?_)
    rcases f with rfl | f
    · have := hS.bnew; omega
    · obtain ⟨y, hy, rfl⟩ := List.mem_map.1 f
      have := hS.snew y hy; omega
  · obtain ⟨z, hz, e⟩ := hmem x hx
    rw [e]; exact hS.snew z hz
  · obtain ⟨z, hz, e⟩ := hmem x hx
    rw [e] at f
    exact hT.free c hc z hz (h.rk.2 _ (hS.st.mp.items z hz).lt c f)
theorem CtS.grow {W0 W W' : World} {s bm n : Nat} {S : List Nd5} (h : CtS W0 s bm n S W) (e : Ext W W') : CtS W0 s bm n S W' := ⟨h.st.ext e, h.cnt, h.full, h.len, h.hb, h.sum, h.ext.trans e, h.bnew, h.snew⟩
theorem CtS.more {W0 W : World} {s bm n : Nat} {S : List Nd5} (h : CtS W0 s bm n S W) : CtS W0 s bm (n + 1) S W := ⟨h.st, h.cnt, h.full, h.len, fun x hx => by have := h.hb x hx; omega, by have := h.sum; omega, h.ext, h.bnew, h.snew⟩
theorem RtS.grow {W0 W W' : World} {s bm n : Nat} {S : List Nd5} {T : List ByteArray} {v : Value} (hS : CtS W0 s bm n S W) (h : RtS W0 S T v W) (e : Ext W W') : RtS W0 S T v W' := ⟨own_ext h.row e, h.new, fun c hc x hx f => h.free c hc x hx (((RK.refl W).ext e).2 _ (hS.st.mp.items x hx).lt c f)⟩
theorem CtS.bd {W0 W : World} {s bm n : Nat} {S : List Nd5} (h : CtS W0 s bm n S W) (hn : n ≤ 1000) : ∀ x ∈ S, -1000000000 ≤ x.2.2.used ∧ x.2.2.used ≤ 1000000000 ∧ -1000000000 ≤ x.2.2.held ∧ x.2.2.held ≤ 1000000000 := fun x hx => by
  have := h.cnt.bd h.len x hx
  have := h.cnt.held x hx
  have := h.hb x hx
  omega
end
end Go.Proofs.YtjogjmffkmfmbaaGreatDoor
/- law 06: StoreCounts, plain: the keys in order, and what is held in all. -/
namespace Go.Proofs.YtjogjmffkmfmbaaGreatDoor
section
open Go Go.RowKit
set_option linter.unusedSimpArgs false
set_option linter.unusedVariables false
theorem lt_list6 : ∀ (a b : List UInt8), Lt a b ↔ a < b
  | a, [] => ⟨fun h => absurd h (not_lt_nil _), fun h => absurd h (List.not_lt_nil _)⟩
  | [], b :: y => ⟨fun _ => List.nil_lt_cons _ _, fun _ => nil_lt⟩
  | a :: x, b :: y => by rw [lt_cons, List.cons_lt_cons_iff, lt_list6 x y]
theorem sortS_rises6 {ks : List (List UInt8)} (h : ks.Nodup) : (sortS ks).Pairwise Lt := by
  have tr : ∀ a b c : List UInt8, decide (a ≤ b) = true → decide (b ≤ c) = true → decide (a ≤ c) = true := fun a b c h1 h2 => by simp only [decide_eq_true_eq] at *; exact List.le_trans h1 h2
  have to : ∀ a b : List UInt8, (decide (a ≤ b) || decide (b ≤ a)) = true := fun a b => by simp only [Bool.or_eq_true, decide_eq_true_eq]; exact List.le_total a b
  have h1 : (sortS ks).Pairwise (fun x y => decide (x ≤ y) = true) := List.pairwise_mergeSort tr to ks
  have h2 : (sortS ks).Nodup := (List.mergeSort_perm _ _).nodup_iff.2 h
  refine (h1.and h2).imp fun {a b} h => ?_
  have h3 : a ≤ b := by simpa using h.1
  rw [lt_list6]
  by_cases e : a < b
  · exact e
  · exact absurd (List.le_antisymm h3 (List.not_lt.1 e)) h.2
def keysB (S : List Nd5) : List ByteArray := baL (sortS (S.map (·.1)))
theorem keysB_len (S : List Nd5) : (keysB S).length = S.length := by unfold keysB baL; rw [List.length_map, sortS_len, List.length_map]
theorem keysB_at {S : List Nd5} {i : Nat} {x : ByteArray} (hx : (keysB S)[i]? = some x) : ∃ y, atL S x.data.toList = some y := by
  unfold keysB baL at hx
  rw [List.getElem?_map] at hx
  obtain ⟨k, hk, rfl⟩ := Option.map_eq_some_iff.1 hx
  have hm := (List.mergeSort_perm _ _).mem_iff.1 (List.mem_of_getElem? hk)
  exact Option.isSome_iff_exists.1 (has_iff.2 (by simpa using hm))
theorem keysB_rise {S : List Nd5} (hn : (S.map (·.1)).Nodup) {i : Nat} {x y : ByteArray} (hx : (keysB S)[i]? = some x) (hy : (keysB S)[i + 1]? = some y) : Op.bytesLess x.toList y.toList = true := by
  unfold keysB baL at hx hy
  rw [List.getElem?_map] at hx hy
  obtain ⟨k, hk, rfl⟩ := Option.map_eq_some_iff.1 hx
  obtain ⟨k2, hk2, rfl⟩ := Option.map_eq_some_iff.1 hy
  have hp := List.pairwise_iff_getElem.1 (sortS_rises6 hn) i (i + 1) (List.getElem?_eq_some_iff.1 hk).1 (List.getElem?_eq_some_iff.1 hk2).1 (by omega)
  rw [(List.getElem?_eq_some_iff.1 hk).2, (List.getElem?_eq_some_iff.1 hk2).2] at hp
  rw [ByteArray.toList_eq, ByteArray.toList_eq]
  exact hp
def sumK (S : List Nd5) (L : List ByteArray) : Int := (L.map fun k => heldO (atL S k.data.toList)).sum
theorem sum_perm6 {a b : List Int} (h : a.Perm b) : a.sum = b.sum := by
  induction h with
  | nil => rfl
  | cons x _ ih => rw [List.sum_cons, List.sum_cons, ih]
  | swap x y l => rw [List.sum_cons, List.sum_cons, List.sum_cons, List.sum_cons]; omega
  | trans _ _ h1 h2 => exact h1.trans h2
theorem sumK_all {S : List Nd5} (hn : (S.map (·.1)).Nodup) : sumK S (keysB S) = heldS S := by
  have e : (keysB S).map (fun k => heldO (atL S k.data.toList)) = (sortS (S.map (·.1))).map (fun k => heldO (atL S k)) := by
    unfold keysB baL; rw [List.map_map]; rfl
  unfold sumK
  have hp : (sortS (S.map (·.1))).Perm (S.map (·.1)) := List.mergeSort_perm _ _
  rw [e, sum_perm6 (hp.map _), List.map_map]
  unfold heldS
  congr 1
  refine List.map_congr_left fun x hx => ?_
  simp only [Function.comp]
  rw [at_some hn hx rfl]; rfl
theorem sumK_step {S : List Nd5} {L : List ByteArray} {i : Nat} {x : ByteArray} (hx : L[i]? = some x) : sumK S (L.take (i + 1)) = sumK S (L.take i) + heldO (atL S x.data.toList) := by
  unfold sumK
  rw [List.take_add_one, hx, List.map_append, List.sum_append]
  simp
theorem sumK_bd {S : List Nd5} {n : Int} (h : ∀ x ∈ S, 0 ≤ x.2.2.held ∧ x.2.2.held ≤ n) (hn : 0 ≤ n) : ∀ L : List ByteArray, 0 ≤ sumK S L ∧ sumK S L ≤ n * L.length
  | [] => by simp [sumK]
  | k :: L => by
    have ih := sumK_bd h hn L
    have e : sumK S (k :: L) = heldO (atL S k.data.toList) + sumK S L := by unfold sumK; rw [List.map_cons, List.sum_cons]
    have hb : 0 ≤ heldO (atL S k.data.toList) ∧ heldO (atL S k.data.toList) ≤ n := by
      cases hy : atL S k.data.toList with
      | none => exact ⟨Int.le_refl _, hn⟩
      | some y => exact h y (atL_mem hy).1
    rw [e, List.length_cons]
    push_cast
    rw [Int.mul_add, Int.mul_one]
    omega
end
end Go.Proofs.YtjogjmffkmfmbaaGreatDoor
/- law 06: StoreCounts. -/
namespace Go.Proofs.YtjogjmffkmfmbaaGreatDoor
section
open Go Go.RowKit
set_option linter.unusedSimpArgs false
set_option linter.unusedVariables false
attribute [local go_sem] Oper.semAt_some
def CtR (W0 : World) (s bm : Nat) (l : List ActS) (hv rv iv : Value) (W : World) : Prop := ∃ (i : Nat) (S : List Nd5) (T : List ByteArray), i ≤ l.length ∧ iv = .int .i64 i ∧ hv = .int .i64 (heldS S) ∧ T.length ≤ i ∧ CtS W0 s bm i S W ∧ RtS W0 S T rv W
theorem any_nodes {w : World} {l : List ActS} (h : FewAct l) {p : ActS} (hp : p ∈ l) : AnyL p.nodes := any_size fun t ht => Nat.le_trans (h.size p hp t ht) (by decide)
theorem Tryz.enterCount6 : ∀ args w, (callFunc 43 args).run Tryz.prog w = .ok (.enter 43 args) w := fun _ _ => by kernel_rfl
theorem Tryz.enterHeld6 : ∀ args w, (callFunc 45 args).run Tryz.prog w = .ok (.enter 45 args) w := fun _ _ => by kernel_rfl
def CtR2 (w4 : World) (S : List Nd5) (nv iv : Value) (W : World) : Prop := ∃ i : Nat, i ≤ S.length ∧ iv = .int .i64 i ∧ nv = .int .i64 (sumK S ((keysB S).take i)) ∧ Ext w4 W
set_option maxRecDepth 100000 in
set_option maxHeartbeats 16000000 in
theorem counts_c (w : World) (hc : Cubes w) (hG : ErrT w) (v : Value) (l : List ActS) (hash : ByteArray) (hv : RdAct w v l) (hn : l.length ≤ 9223372036854775807) (hs : SmallA6 l) (hk : hash.size ≤ 9223372036854775807) :
    Calls Tryz.prog 10 #[v, .string hash] w fun e w' => e = .returned (.bool true) ∧ Ext w w' := by
  have HC := Lib.hid hc
  have HG := Lib.hid hG
  have HV := Lib.hid hv
  have HN := Lib.hid (And.intro hn hs)
  obtain ⟨va, vc, hsl⟩ := hv.sl
  subst hsl
  clear hc hG hv hn hs
  go_enter Tryz.func10, Tryz.ntmps10
  go_wp2_with fail
  refine (works6_c w HC.out).mono ?_
  rintro e w1 ⟨rfl, hE⟩
  have HE1 := Lib.hid hE
  clear hE
  go_wp2_with fail
  refine (snew_c w1 1000).mono ?_
  rintro e w2 ⟨s, bm, rfl, hE, hst, hb1, hs1, hne⟩
  have HE2 := Lib.hid (HE1.out.trans hE)
  have HS2 := Lib.hid hst
  have HB := Lib.hid (show w.heap.size ≤ bm by have := HE1.out.size; omega)
  clear hE hst hb1 hs1 hne HE1
  go_wp2_with fail
  refine (few6_c w2 _ l (HV.out.ext HE2.out) HN.out.1 HN.out.2).mono ?_
  rintro e w3 ⟨fb, rfl, hE, hfw⟩
  have HE3 := Lib.hid (HE2.out.trans hE)
  have HS3 := Lib.hid (HS2.out.ext hE)
  have HFW := Lib.hid hfw
  clear hE hfw HS2 HE2
  cases fb with
  | false =>
    go_wp2_with fail
    go_ret
    exact ⟨rfl, HE3.out⟩
  | true =>
  have HFA := Lib.hid (HFW.out rfl)
  by_cases h100 : 100 < hash.size
  · have c1 : (100 : Int) < (hash.size : Int) := by omega
    clear h100
    go_wp2_with fail
    go_ret
    exact ⟨rfl, HE3.out⟩
  have c1 : ¬ (100 : Int) < (hash.size : Int) := by omega
  clear h100 hk
  have hl10 := HFA.out.len
  go_wp2_with fail
  go_loopw [8, 9, 10] (fun hv rv iv wr => CtR w s bm l hv rv iv wr) (fun _ _ iv _ => l.length - (intOf iv).toNat)
  case atStart =>
    exact ⟨0, [], [], Nat.zero_le _, rfl, rfl, Nat.le_refl _, ⟨HS3.out, Cnt.none, (fun x hx => by cases hx), by simp, (fun x hx => by cases hx), by simp [heldS], HE3.out, HB.out, (fun x hx => by cases hx)⟩, ⟨World.ownsRow_nil _ _ _ _, (fun c hc => by cases hc), (fun c hc => by cases hc)⟩⟩
  case round =>
    obtain ⟨i, S, T, hi, rfl, rfl, hT, hCS, hRT⟩ := hrel
    have HCS := Lib.hid hCS
    obtain ⟨ra, rc, rfl⟩ := row_slice hRT.row
    have hpos := heldS_pos hCS.cnt.held
    have hsum := hCS.sum
    obtain ⟨hh, hhh⟩ : ∃ hh, hh = heldS S := ⟨_, rfl⟩
    rw [← hhh] at hpos hsum ⊢
    have HHH := Lib.hid hhh
    obtain ⟨m, hm⟩ : ∃ m, m = T.length := ⟨_, rfl⟩
    rw [← hm] at hT hRT ⊢
    have HM := Lib.hid hm
    have HRT := Lib.hid hRT
    by_cases hlt : i < l.length
    · have b1 : (i : Int) < (l.length : Int) := by omega
      obtain ⟨p, hp⟩ : ∃ p, l[i]? = some p := ⟨_, List.getElem?_eq_getElem hlt⟩
      rcases HV.out with ⟨_, _, _, h0⟩ | ⟨b, o, c1', hv', hb, hcc, hcell⟩
      · rw [h0] at hlt; cases hlt
      cases hv'
      obtain ⟨q1, q2, q3, hrd⟩ := hcell i p hp
      have q1 := cell_ext q1 hCS.ext
      have q2 := cell_ext q2 hCS.ext
      have q3 := cell_ext q3 hCS.ext
      have HRD := Lib.hid (hrd.ext hCS.ext)
      have HPM := Lib.hid (List.mem_of_getElem? hp)
      obtain ⟨pk, pv, N, pn⟩ := p
      simp only at q1 q2 q3
      obtain ⟨na, nc, hsl⟩ := rds_sl6 HRD.out
      simp only at hsl
      subst hsl
      clear hcell hp hb hcc hrd hCS hRT hhh hm
      by_cases hk0 : pk = 0
      · subst hk0
        go_wp2_with fail
        refine (add_any wr (HC.out.ext HCS.out.ext) (HG.out.ext HCS.out.ext) s bm 1000 S HCS.out.st _ N HRD.out (any_nodes (w := w) HFA.out HPM.out) (by have h : N.length ≤ 20 := HFA.out.nodes _ HPM.out; omega) (by decide) (by decide) (by have := HCS.out.len; omega) (fun x hx => by have := HCS.out.bd (by omega) x hx; have := HCS.out.cnt.bd HCS.out.len x hx; omega) (fun x hx => by have := HCS.out.bd (by omega) x hx; have := HCS.out.cnt.held x hx; omega)).mono ?_
        rintro e w5 (⟨k, hk, rfl, hE⟩ | ⟨top, G, M, htop, hA⟩)
        · have HCS5 := Lib.hid (HCS.out.grow hE)
          have HRT5 := Lib.hid (HRT.out.grow HCS.out hE)
          have hk0 : (k == 0) = false := by simpa using hk
          have HNW := Lib.hid (news_blk (Blk.new w5 (.cells #[.string ⟨#[]⟩] 9)))
          have hm1 : m + 1 ≤ maxLen := by unfold maxLen; omega
          have hm2 : (m + 1) * 16 ≤ 140737488355328 := by omega
          have HRW := Lib.hid (show w5.ownsRow 0 9 1 (.slice ra m rc) m (T.map Value.string) by have h := HRT5.out.row; rw [← HM.out] at h; exact h)
          clear hE hk
          obtain ⟨i0, hi', hz0, hz1, hz2⟩ := info_parts Tryz.infoStr
          go_wp2_with (at_builtin; refine wpList_append_any _ rfl (.tmp 63) (.tmp 65) 22 rfl 9 i0 _ 1 16 Tryz.uStrs hi' hz0 hz1 hz2 rfl (by decide) (.slice ra m rc) m _ rfl (own_ext HRW.out ((ExtR w5).alloc _)) ⟨w5.heap.size, 0, none⟩ 1 1 [.string ⟨#[]⟩] rfl rfl HNW.out (by simp [Value.oneCell']) hm1 hm2 ?_; intro v' w6 r1 r2 r3; obtain ⟨a6, c6, rfl⟩ := row_slice r1; have HR := Lib.hid (And.intro r1 (And.intro r2 r3)); clear r1 r2 r3)
          have hx := rt_app (r := ⟨#[]⟩) HCS5.out HRT5.out ((ExtR w5).alloc (.cells #[.string ⟨#[]⟩] 9)) (by rw [← HM.out]; exact HR.out.1) HR.out.2.1 HR.out.2.2
          have HX := Lib.hid hx
          clear hx
          go_roundw
          case rel => exact ⟨i + 1, S, T ++ [⟨#[]⟩], by omega, by go_num, by rw [HHH.out], by rw [List.length_append, List.length_singleton, ← HM.out]; omega, HX.out.1.more, HX.out.2⟩
          case measure => simp [intOf]; omega
        · have hres := hA.res
          subst hres
          obtain ⟨ha1, ha2, ha3⟩ := ct_add HCS.out HRT.out (by have h : N.length ≤ 20 := HFA.out.nodes _ HPM.out; omega) hA
          obtain ⟨S', hS'⟩ : ∃ S', S' = addS S G M top := ⟨_, rfl⟩
          rw [← hS'] at ha1 ha2 ha3
          rw [← HHH.out] at ha3
          have HCS5 := Lib.hid ha1
          have HRT5 := Lib.hid ha2
          have HH3 := Lib.hid ha3
          obtain ⟨sh, hsh⟩ : ∃ sh, sh = shaB top := ⟨_, rfl⟩
          rw [← hsh]
          have HNW := Lib.hid (news_blk (Blk.new w5 (.cells #[.string sh] 9)))
          have hm1 : m + 1 ≤ maxLen := by unfold maxLen; omega
          have hm2 : (m + 1) * 16 ≤ 140737488355328 := by omega
          have hw1 : -9223372036854775808 ≤ hh + 1 := by omega
          have hw2 : hh + 1 ≤ 9223372036854775807 := by omega
          have HRW := Lib.hid (show w5.ownsRow 0 9 1 (.slice ra m rc) m (T.map Value.string) by have h := HRT5.out.row; rw [← HM.out] at h; exact h)
          clear hA ha1 ha2 ha3 hS' hsh htop
          obtain ⟨i0, hi', hz0, hz1, hz2⟩ := info_parts Tryz.infoStr
          go_wp2_with (at_builtin; refine wpList_append_any _ rfl (.tmp 63) (.tmp 65) 22 rfl 9 i0 _ 1 16 Tryz.uStrs hi' hz0 hz1 hz2 rfl (by decide) (.slice ra m rc) m _ rfl (own_ext HRW.out ((ExtR w5).alloc _)) ⟨w5.heap.size, 0, none⟩ 1 1 [.string sh] rfl rfl HNW.out (by simp [Value.oneCell']) hm1 hm2 ?_; intro v' w6 r1 r2 r3; obtain ⟨a6, c6, rfl⟩ := row_slice r1; have HR := Lib.hid (And.intro r1 (And.intro r2 r3)); clear r1 r2 r3)
          have hx := rt_app (r := sh) HCS5.out HRT5.out ((ExtR w5).alloc (.cells #[.string sh] 9)) (by rw [← HM.out]; exact HR.out.1) HR.out.2.1 HR.out.2.2
          have HX := Lib.hid hx
          clear hx
          go_roundw
          case rel => exact ⟨i + 1, S', T ++ [sh], by omega, by go_num, by rw [HH3.out], by rw [List.length_append, List.length_singleton, ← HM.out]; omega, HX.out.1, HX.out.2⟩
          case measure => simp [intOf]; omega
      · have hk1 : (pk == 0) = false := by simpa using hk0
        clear hk0
        by_cases hge : 0 ≤ pn
        · by_cases hlm : pn < (m : Int)
          · obtain ⟨j, rfl⟩ : ∃ j : Nat, pn = j := ⟨pn.toNat, by omega⟩
            obtain ⟨t, ht⟩ : ∃ t, T[j]? = some t := ⟨_, List.getElem?_eq_getElem (by have := HM.out; omega)⟩
            have hrow := HRT.out.row
            obtain ⟨m', hm'⟩ : ∃ m', m = m' + 1 := ⟨m - 1, by omega⟩
            rw [← HM.out, hm'] at hrow
            obtain ⟨g, cp, hgs⟩ := row_ne hrow
            rw [← hm'] at hgs
            obtain ⟨e1, _, e3⟩ := Value.slice.inj hgs
            subst e1 e3
            have q4 : wr.cell? ⟨g, j, none⟩ = some (.string t) := by
              have := World.ownsRow.cells (g := g) hrow (by rw [← hm']; rfl) j (.string t) (by rw [List.getElem?_map, ht]; rfl)
              rw [Addr.add_lit, Nat.zero_add] at this; exact this
            have hcap : m ≤ rc := by have h := row_cap (m := m') hrow rfl; omega
            clear hgs hrow hm' ht
            go_wp2_with fail
            refine (drop_any wr s bm 1000 S HCS.out.st HCS.out.cnt HCS.out.full HCS.out.len (fun x hx => by have := HCS.out.hb x hx; omega) t).mono ?_
            rintro e w5 (⟨_, rfl, hE⟩ | ⟨S', y, hy, _, rfl, hD⟩)
            · have HCS5 := Lib.hid (HCS.out.grow hE)
              have HRT5 := Lib.hid (HRT.out.grow HCS.out hE)
              clear hE
              go_wp2_with fail
              go_roundw
              case rel => exact ⟨i + 1, S, T, by omega, by go_num, by rw [HHH.out], by rw [← HM.out]; omega, HCS5.out.more, HRT5.out⟩
              case measure => simp [intOf]; omega
            · obtain ⟨ha1, ha2⟩ := ct_drop HCS.out HRT.out hD (atL_mem hy).1
              have HCS5 := Lib.hid ha1
              have HRT5 := Lib.hid ha2
              have HH3 := Lib.hid (show heldS S' = hh - 1 by rw [hD.sum, ← HHH.out])
              have hw1 : -9223372036854775808 ≤ hh - 1 := by omega
              have hw2 : hh - 1 ≤ 9223372036854775807 := by omega
              clear hD ha1 ha2 hy
              go_wp2_with fail
              go_roundw
              case rel => exact ⟨i + 1, S', T, by omega, by go_num, by rw [HH3.out], by rw [← HM.out]; omega, HCS5.out.more, by have h := HRT5.out; exact h⟩
              case measure => simp [intOf]; omega
          · have HCS5 := Lib.hid HCS.out.more
            go_wp2_with fail
            go_roundw
            case rel => exact ⟨i + 1, S, T, by omega, by go_num, by rw [HHH.out], by rw [← HM.out]; omega, HCS5.out, HRT.out⟩
            case measure => simp [intOf]; omega
        · have HCS5 := Lib.hid HCS.out.more
          go_wp2_with fail
          go_roundw
          case rel => exact ⟨i + 1, S, T, by omega, by go_num, by rw [HHH.out], by rw [← HM.out]; omega, HCS5.out, HRT.out⟩
          case measure => simp [intOf]; omega
    · have hil : i = l.length := by omega
      have HNDK := Lib.hid hCS.st.nd
      have HBD := Lib.hid (show ∀ x ∈ S, 0 ≤ x.2.2.held ∧ x.2.2.held ≤ 10 from fun x hx => ⟨hCS.cnt.held x hx, by have := hCS.hb x hx; omega⟩)
      have HSB := Lib.hid (sumK_bd HBD.out (by decide))
      have hsl := hCS.len
      clear hCS hRT hhh hm
      go_wp2_with fail
      refine (shashes_c wr s bm 1000 S HCS.out.st (by omega)).mono ?_
      rintro e w4 ⟨kv, rfl, hR⟩
      have HCS4 := Lib.hid (HCS.out.grow hR.ext)
      have HKR := Lib.hid (show RdS w4 kv (keysB S) from SRow.rd hR)
      obtain ⟨ka, kc, rfl⟩ := hR.sl
      obtain ⟨K, hK⟩ : ∃ K, K = keysB S := ⟨_, rfl⟩
      have HK := Lib.hid hK
      have HKL := Lib.hid (show K.length = S.length by rw [hK, keysB_len])
      obtain ⟨sl, hsle⟩ : ∃ sl, sl = S.length := ⟨_, rfl⟩
      rw [← hsle] at hsl ⊢
      have HSL := Lib.hid hsle
      clear hR hK hsle
      go_wp2_with fail
      go_loopw [15, 16] (fun nv iv wr => CtR2 w4 S nv iv wr) (fun _ iv _ => sl - (intOf iv).toNat)
      case atStart => exact ⟨0, Nat.zero_le _, rfl, by simp [sumK], ExtR w4⟩
      case round =>
        obtain ⟨j, hj, rfl, rfl, hE⟩ := hrel
        rw [← HSL.out] at hj
        have HE := Lib.hid hE
        have HC9 := Lib.hid (fun w9 (h9 : Ext wr w9) => HCS4.out.grow (hE.trans h9))
        have hsb := HSB.out ((keysB S).take j)
        have htl : ((keysB S).take j).length ≤ 1000 := by rw [List.length_take, keysB_len, ← HSL.out]; omega
        obtain ⟨sm, hsm⟩ : ∃ sm, sm = sumK S ((keysB S).take j) := ⟨_, rfl⟩
        rw [← hsm] at hsb ⊢
        have HSM := Lib.hid hsm
        clear hE hsm
        by_cases hlt2 : j < sl
        · have b2 : (j : Int) < (sl : Int) := by omega
          obtain ⟨x, hx⟩ : ∃ x, (keysB S)[j]? = some x := ⟨_, List.getElem?_eq_getElem (by rw [keysB_len, ← HSL.out]; exact hlt2)⟩
          have HX := Lib.hid hx
          obtain ⟨y, hy⟩ := keysB_at hx
          obtain ⟨a7, c7, hhh2, hcx⟩ := HKR.out.slice
          obtain ⟨bx, ox, hax, hcx0⟩ := hcx j x hx
          obtain ⟨e1, _, e3⟩ := Value.slice.inj hhh2
          rw [hax] at e1
          subst e1
          rw [hax] at hcx
          have QX := Lib.hid (cell_ext hcx0 HE.out)
          have hcn := HCS4.out.full y (atL_mem hy).1
          have hus := HCS4.out.cnt.used y (atL_mem hy).1
          have hbd := HCS4.out.bd (by omega) y (atL_mem hy).1
          have hhb := HBD.out y (atL_mem hy).1
          obtain ⟨cn, hcne⟩ : ∃ cn, cn = countO (atL S x.data.toList) := ⟨_, rfl⟩
          obtain ⟨hd, hde⟩ : ∃ hd, hd = heldO (atL S x.data.toList) := ⟨_, rfl⟩
          have hcn1 : cn = y.2.2.used + y.2.2.held := by rw [hcne, hy]; rfl
          have hhd1 : hd = y.2.2.held := by rw [hde, hy]; rfl
          have HCT := Lib.hid (fun w9 (h9 : Ext wr w9) => scount_c w9 s bm 1000 S x (HC9.out w9 h9).st (HCS4.out.bd (by omega)))
          have HHT := Lib.hid (fun w9 (h9 : Ext wr w9) => sheld_c w9 s bm 1000 S x (HC9.out w9 h9).st)
          have HSS := Lib.hid (show sumK S ((keysB S).take (j + 1)) = sm + hd by rw [sumK_step hx, ← HSM.out, ← hde])
          rw [← hcne] at HCT
          rw [← hde] at HHT
          have d1 : decide (cn < 1) = false := decide_eq_false (by omega)
          have d1' : ¬ cn < 1 := by omega
          have d2 : decide (cn < hd) = false := decide_eq_false (by omega)
          have d2' : ¬ cn < hd := by omega
          have hw1 : -9223372036854775808 ≤ sm + hd := by omega
          have hw2 : sm + hd ≤ 9223372036854775807 := by omega
          have q1 := QX.out
          clear hcne hde hcn1 hhd1 hhh2 hcx0 hus hcn hbd hhb hy hx e3
          rcases Nat.eq_zero_or_pos j with h0 | h0
          · subst h0
            go_wp2_with fail
            refine wp_region_mixK [0,1,2,3,4,5,6,7,8,9,10,11,12,13,14,15,16,17,18,19,20,21,22,23,24,25,26,27,28,29,30,31,32,33,34,35,36,37] Ext ExtR ExtT (by kernel_rfl) (by kernel_rfl) (by kernel_rfl) ?_
            iterate 4 (refine mixk_pure _ rfl (by kernel_rfl) rfl rfl (fun K hK => ?_); go_big_quiet_op; refine hK _ ?_; clear hK K)
            refine mixk_load ⟨bx, ox + 0, none⟩ (.string x) rfl (by kernel_rfl) rfl rfl (fun w2 h2 => run_load_plain Tryz.uStr rfl (cell_ext (by exact QX.out) ((drewE wr).trans h2))) ?_
            simp only [Act.put, List.setIfInBounds_toArray, List.set_cons_zero, List.set_cons_succ]
            refine mixk_call _ 43 #[.pointer (some ⟨s, 0, none⟩), .string x] (.int .i64 cn) rfl (by kernel_rfl) rfl (fun w1 => exec_call Tryz.enterCount6 (by kernel_rfl)) (fun w1 h1 => HCT.out w1 ((drewE wr).trans h1)) ?_
            simp only [Act.put, List.setIfInBounds_toArray, List.set_cons_zero, List.set_cons_succ]
            iterate 6 (refine mixk_pure _ rfl (by kernel_rfl) rfl rfl (fun K hK => ?_); go_big_quiet_op; refine hK _ ?_; clear hK K)
            refine mixk_load ⟨bx, ox + 0, none⟩ (.string x) rfl (by kernel_rfl) rfl rfl (fun w2 h2 => run_load_plain Tryz.uStr rfl (cell_ext (by exact QX.out) ((drewE wr).trans h2))) ?_
            simp only [Act.put, List.setIfInBounds_toArray, List.set_cons_zero, List.set_cons_succ]
            refine mixk_call _ 45 #[.pointer (some ⟨s, 0, none⟩), .string x] (.int .i64 hd) rfl (by kernel_rfl) rfl (fun w1 => exec_call Tryz.enterHeld6 (by kernel_rfl)) (fun w1 h1 => HHT.out w1 ((drewE wr).trans h1)) ?_
            simp only [Act.put, List.setIfInBounds_toArray, List.set_cons_zero, List.set_cons_succ]
            iterate 4 (refine mixk_pure _ rfl (by kernel_rfl) rfl rfl (fun K hK => ?_); go_big_quiet_op; refine hK _ ?_; clear hK K)
            refine mixk_load ⟨bx, ox + 0, none⟩ (.string x) rfl (by kernel_rfl) rfl rfl (fun w2 h2 => run_load_plain Tryz.uStr rfl (cell_ext (by exact QX.out) ((drewE wr).trans h2))) ?_
            simp only [Act.put, List.setIfInBounds_toArray, List.set_cons_zero, List.set_cons_succ]
            refine mixk_call _ 43 #[.pointer (some ⟨s, 0, none⟩), .string x] (.int .i64 cn) rfl (by kernel_rfl) rfl (fun w1 => exec_call Tryz.enterCount6 (by kernel_rfl)) (fun w1 h1 => HCT.out w1 ((drewE wr).trans h1)) ?_
            simp only [Act.put, List.setIfInBounds_toArray, List.set_cons_zero, List.set_cons_succ]
            iterate 6 (refine mixk_pure _ rfl (by kernel_rfl) rfl rfl (fun K hK => ?_); go_big_quiet_op; refine hK _ ?_; clear hK K)
            iterate 10 (refine mixk_skip _ rfl (by kernel_rfl) rfl ?_; simp only [Act.put, List.setIfInBounds_toArray, List.set_cons_zero, List.set_cons_succ])
            iterate 2 (refine mixk_pure _ rfl (by kernel_rfl) rfl rfl (fun K hK => ?_); go_big_quiet_op; refine hK _ ?_; clear hK K)
            refine mixk_end (by kernel_rfl) (fun w5 he => ?_)
            have HE5 := Lib.hid (HE.out.trans ((drewE wr).trans he))
            have HX5 := Lib.hid ((drewE wr).trans he)
            have q5 := cell_ext QX.out HX5.out
            rw [Nat.add_zero] at q5
            clear he q1
            go_wp2_with fail
            refine (HHT.out w5 HX5.out).mono ?_
            rintro e w6 ⟨rfl, hE⟩
            have HE6 := Lib.hid (HE5.out.trans hE)
            clear hE
            go_wp2_with fail
            go_roundw
            case rel => exact ⟨0 + 1, by have := HSL.out; omega, by go_num, by rw [HSS.out], HE6.out⟩
            case measure => simp [intOf]; omega
          · obtain ⟨j', rfl⟩ : ∃ j', j = j' + 1 := ⟨j - 1, by omega⟩
            obtain ⟨x', hx'⟩ : ∃ x', (keysB S)[j']? = some x' := ⟨_, List.getElem?_eq_getElem (by rw [keysB_len, ← HSL.out]; omega)⟩
            obtain ⟨b2', o2', hax2, hcx2⟩ := hcx j' x' hx'
            obtain ⟨rfl, rfl⟩ : bx = b2' ∧ ox = o2' := by
              have := Option.some.inj hax2; injection this with h1 h2 h3; exact ⟨h1, h2⟩
            have QY := Lib.hid (cell_ext hcx2 HE.out)
            have hls := keysB_rise HNDK.out hx' HX.out
            have d3 : (0 : Int) < (((j' + 1 : Nat) : Int)) := by omega
            have d4 : ((j' + 1 : Nat) : Int) - 1 = (j' : Int) := by omega
            have d5 : (j' : Int) < (sl : Int) := by omega
            clear hx' hax2 hcx2 hcx
            go_wp2_with fail
            refine wp_region_mixK [0,1,2,3,4,5,6,7,8,9,10,11,12,13,14,15,16,17,18,19,20,21,22,23,24,25,26,27,28,29,30,31,32,33,34,35,36,37] Ext ExtR ExtT (by kernel_rfl) (by kernel_rfl) (by kernel_rfl) ?_
            iterate 4 (refine mixk_pure _ rfl (by kernel_rfl) rfl rfl (fun K hK => ?_); go_big_quiet_op; refine hK _ ?_; clear hK K)
            refine mixk_load ⟨bx, ox + (j' + 1), none⟩ (.string x) rfl (by kernel_rfl) rfl rfl (fun w2 h2 => run_load_plain Tryz.uStr rfl (cell_ext (by exact QX.out) ((drewE wr).trans h2))) ?_
            simp only [Act.put, List.setIfInBounds_toArray, List.set_cons_zero, List.set_cons_succ]
            refine mixk_call _ 43 #[.pointer (some ⟨s, 0, none⟩), .string x] (.int .i64 cn) rfl (by kernel_rfl) rfl (fun w1 => exec_call Tryz.enterCount6 (by kernel_rfl)) (fun w1 h1 => HCT.out w1 ((drewE wr).trans h1)) ?_
            simp only [Act.put, List.setIfInBounds_toArray, List.set_cons_zero, List.set_cons_succ]
            iterate 6 (refine mixk_pure _ rfl (by kernel_rfl) rfl rfl (fun K hK => ?_); go_big_quiet_op; refine hK _ ?_; clear hK K)
            refine mixk_load ⟨bx, ox + (j' + 1), none⟩ (.string x) rfl (by kernel_rfl) rfl rfl (fun w2 h2 => run_load_plain Tryz.uStr rfl (cell_ext (by exact QX.out) ((drewE wr).trans h2))) ?_
            simp only [Act.put, List.setIfInBounds_toArray, List.set_cons_zero, List.set_cons_succ]
            refine mixk_call _ 45 #[.pointer (some ⟨s, 0, none⟩), .string x] (.int .i64 hd) rfl (by kernel_rfl) rfl (fun w1 => exec_call Tryz.enterHeld6 (by kernel_rfl)) (fun w1 h1 => HHT.out w1 ((drewE wr).trans h1)) ?_
            simp only [Act.put, List.setIfInBounds_toArray, List.set_cons_zero, List.set_cons_succ]
            iterate 4 (refine mixk_pure _ rfl (by kernel_rfl) rfl rfl (fun K hK => ?_); go_big_quiet_op; refine hK _ ?_; clear hK K)
            refine mixk_load ⟨bx, ox + (j' + 1), none⟩ (.string x) rfl (by kernel_rfl) rfl rfl (fun w2 h2 => run_load_plain Tryz.uStr rfl (cell_ext (by exact QX.out) ((drewE wr).trans h2))) ?_
            simp only [Act.put, List.setIfInBounds_toArray, List.set_cons_zero, List.set_cons_succ]
            refine mixk_call _ 43 #[.pointer (some ⟨s, 0, none⟩), .string x] (.int .i64 cn) rfl (by kernel_rfl) rfl (fun w1 => exec_call Tryz.enterCount6 (by kernel_rfl)) (fun w1 h1 => HCT.out w1 ((drewE wr).trans h1)) ?_
            simp only [Act.put, List.setIfInBounds_toArray, List.set_cons_zero, List.set_cons_succ]
            iterate 10 (refine mixk_pure _ rfl (by kernel_rfl) rfl rfl (fun K hK => ?_); go_big_quiet_op; refine hK _ ?_; clear hK K)
            refine mixk_load ⟨bx, ox + j', none⟩ (.string x') rfl (by kernel_rfl) rfl rfl (fun w2 h2 => run_load_plain Tryz.uStr rfl (cell_ext (by exact QY.out) ((drewE wr).trans h2))) ?_
            simp only [Act.put, List.setIfInBounds_toArray, List.set_cons_zero, List.set_cons_succ]
            iterate 3 (refine mixk_pure _ rfl (by kernel_rfl) rfl rfl (fun K hK => ?_); go_big_quiet_op; refine hK _ ?_; clear hK K)
            refine mixk_load ⟨bx, ox + (j' + 1), none⟩ (.string x) rfl (by kernel_rfl) rfl rfl (fun w2 h2 => run_load_plain Tryz.uStr rfl (cell_ext (by exact QX.out) ((drewE wr).trans h2))) ?_
            simp only [Act.put, List.setIfInBounds_toArray, List.set_cons_zero, List.set_cons_succ]
            iterate 3 (refine mixk_pure _ rfl (by kernel_rfl) rfl rfl (fun K hK => ?_); go_big_quiet_op; refine hK _ ?_; clear hK K)
            refine mixk_end (by kernel_rfl) (fun w5 he => ?_)
            have HE5 := Lib.hid (HE.out.trans ((drewE wr).trans he))
            have HX5 := Lib.hid ((drewE wr).trans he)
            have q5 := cell_ext QX.out HX5.out
            clear he q1
            go_wp2_with fail
            refine (HHT.out w5 HX5.out).mono ?_
            rintro e w6 ⟨rfl, hE⟩
            have HE6 := Lib.hid (HE5.out.trans hE)
            clear hE
            go_wp2_with fail
            go_roundw
            case rel => exact ⟨j' + 1 + 1, by have := HSL.out; omega, by go_num, by rw [HSS.out], HE6.out⟩
            case measure => simp [intOf]; omega
        · have hje : j = S.length := by have := HSL.out; omega
          have HSE := Lib.hid (show sm = hh by
            rw [HSM.out, HHH.out, ← sumK_all HNDK.out, List.take_of_length_le (by rw [keysB_len]; omega)])
          have HCS5 := Lib.hid (HC9.out wr (ExtR wr))
          have b2 : ¬ (j : Int) < (sl : Int) := by omega
          clear hje
          go_wp2_with fail
          have hg := sget_c wr s bm 1000 S hash HCS5.out.st
          cases hy : atL S hash.data.toList with
          | some y =>
            rw [hy] at hg
            simp only [Option.map_some, optV] at hg
            refine hg.mono ?_
            rintro e w6 ⟨rfl, hE⟩
            have HE6 := Lib.hid (HCS4.out.ext.trans (HE.out.trans hE))
            have hse := HSE.out
            subst hse
            clear hE hg hy
            go_wp2_with fail
            go_ret
            exact ⟨rfl, HE6.out⟩
          | none =>
            rw [hy] at hg
            simp only [Option.map_none, optV] at hg
            refine hg.mono ?_
            rintro e w6 ⟨rfl, hE⟩
            have HCS6 := Lib.hid (HCS5.out.grow hE)
            have hse := HSE.out
            subst hse
            clear hE hg
            have hct := scount_c w6 s bm 1000 S hash HCS6.out.st (HCS6.out.bd (by omega))
            rw [hy] at hct
            have hct : Calls Tryz.prog 43 #[.pointer (some ⟨s, 0, none⟩), .string hash] w6 fun e w' => e = .returned (.int .i64 0) ∧ Ext w6 w' := hct
            go_wp2_with fail
            refine hct.mono ?_
            rintro e w7 ⟨rfl, hE⟩
            have HCS7 := Lib.hid (HCS6.out.grow hE)
            clear hE hct
            have hct := sheld_c w7 s bm 1000 S hash HCS7.out.st
            rw [hy] at hct
            have hct : Calls Tryz.prog 45 #[.pointer (some ⟨s, 0, none⟩), .string hash] w7 fun e w' => e = .returned (.int .i64 0) ∧ Ext w7 w' := hct
            go_wp2_with fail
            refine hct.mono ?_
            rintro e w8 ⟨rfl, hE⟩
            have HE8 := Lib.hid (HCS7.out.ext.trans hE)
            clear hE hct
            go_wp2_with fail
            go_ret
            exact ⟨rfl, HE8.out⟩
end
end Go.Proofs.YtjogjmffkmfmbaaGreatDoor
/- StoreCounts, the card: the law is true for every input. -/
namespace Go.Proofs.YtjogjmffkmfmbaaGreatDoor
section
open Go Go.ChangeShapes Go.WideShapes Go.ChangeAt Go.RowKit Go.ChangeMaps
set_option linter.unusedSimpArgs false
set_option linter.unusedVariables false
set_option maxRecDepth 100000 in
theorem storeCounts_contract (H : Type) (enc : TypeId × Value → H) (W : World) (base : Nat) (args : Array Value) (ds gs : List (DataW H)) (before : List MemPlace)
    (hval : ∀ (j : Nat) t v, Tryz.f10.params[j]? = some t → args[j]? = some v → Value.okWide Tryz.prog W .any base t v)
    (hW : DataW.Whole enc Tryz.prog Tryz.f10.params.toList Rows.storeCountsSpec.vars false W args.toList ds gs before) (hL : laidMetH Tryz.prog Rows.storeCountsRow.laid W) :
    Calls Tryz.prog 10 args W fun e W' => ∃ v, e = .returned v ∧ Rows.storeCountsSpec.post enc Tryz.prog Tryz.f10 false true false false W args v W' := by
  have hW' := hW
  obtain ⟨p, q, hA0, hV, rfl, hfz, hnd⟩ := hW
  have hA : DataW.TrodAll enc Tryz.prog W 0 (fun _ => true) true Tryz.f10.params.toList args.toList ds p := hA0
  rw [Tryz.params10] at hA hval
  obtain ⟨v0, v1, d0, d1, p0, p1, rfl, rfl, rfl, h0, h1⟩ := trodAll_two hA
  obtain ⟨rfl, rfl⟩ := trodVars_none hV
  obtain ⟨l0, hl0, hn0, hs0⟩ := open_acts6 (okWide_slice Tryz.underlying68 (hval 0 68 v0 rfl rfl)) h0
  obtain ⟨s1, rfl, rfl, rfl, ws1⟩ := open_string Tryz.underlying9 (hval 1 9 v1 rfl rfl) h1
  have hk1 := Nat.le_trans ws1 maxLen_big
  clear hA0
  simp only [List.append_nil, List.nil_append] at hW'
  have hlt : ∀ x ∈ p0, x.block < W.heap.size := fun x hx => by simpa using hW'.lt x (by simpa using hx)
  refine (counts_c W (cubes_of hL) (err_of hL) v0 l0 s1 hl0 hn0 hs0 hk1).mono fun e W' ⟨he, hE⟩ => ?_
  subst he
  have hb : Below W.heap.size W W' := ⟨hE.os, hE.tape, hE.output, hE.size, fun k hk => hE.block k hk (fun h => h)⟩
  have hres : DataW.TrodAll enc Tryz.prog W' 0 (fun b => decide (b < W.heap.size)) true [68, 9] [v0, .string s1] [d0, .lit (.string s1.data.toList)] (p0) := by
    simpa using trodAll_mk2 (Below.trod Tryz.laidOutK (by kernel_rfl) (of_decide_eq_true (by kernel_rfl)) h0 hb (fun x hx => hlt x (by simp [hx]))) (shut_string Tryz.underlying9 ws1)
  refine ⟨_, rfl, _, _, _, [], p0, [], hW', trodAll_mk1 (shut_bool Tryz.underlying4 _), ?_, rfl, hb.frame _, fun h => by cases h⟩
  exact hres
set_option maxRecDepth 100000 in
theorem storeCounts_reads (os : Os) {H : Type} (enc : TypeId × Value → H) : ∃ places, DataW.whole enc Tryz.prog ((laidWorld os).forCall (fun _ _ => 0) ⟨#[], #[.slice none 0 0, .string ⟨#[]⟩], []⟩).memory Tryz.f10.params.toList Rows.storeCountsSpec.vars false #[.slice none 0 0, .string ⟨#[]⟩].toList 8 = some ([.nil, .lit (.string [])], [], places) :=
  ⟨[], by kernel_rfl⟩
set_option maxRecDepth 100000 in
theorem storeCounts_lifted (os : Os) (started : os.Started) (H : Type) (enc : TypeId × Value → H) (F : Stop.Interp) :
    ReturnsInHanded {} Tryz.checked os 10 .any ((OpenSpec.ofChange Rows.storeCountsSpec).preRow enc Tryz.prog Tryz.f10 Rows.storeCountsRow.domain false Rows.storeCountsRow.laid) (((OpenSpec.ofChange Rows.storeCountsSpec).at F).post enc Tryz.prog Tryz.f10 false true false false) := by
  obtain ⟨places, hx⟩ := storeCounts_reads os enc
  refine returnsInHanded_of_row (C := Tryz.checked) (s := OpenSpec.ofChange Rows.storeCountsSpec) Tryz.ownK started (by kernel_rfl) Tryz.func10
    (witness_row_at (enc := enc) (C := Tryz.checked) false (laidWorld os) #[.slice none 0 0, .string ⟨#[]⟩] rfl (by kernel_rfl) (by kernel_rfl) (by kernel_rfl)
      (OpenSpec.preRow_of_cond 8 hx (by kernel_rfl) (fun k hk => by cases hk) (by kernel_rfl) (laid_met os _))) ?_
  intro W base args ds gs before hval hW _ _ _ hL _ _
  exact storeCounts_contract H enc W base args ds gs before hval hW hL
theorem storeCounts_said : Rows.StoreCountsSaid :=
  OpenClaim.holds_of_cond 10 Tryz.f10 rfl rfl rfl rfl rfl rfl rfl ⟨rfl, rfl, rfl, rfl, rfl⟩ rfl rfl rfl rfl rfl (by kernel_rfl) Tryz.func10 (by kernel_rfl)
    (of_decide_eq_true (by kernel_rfl)) (by unfold Func.isWrapper; first | (rw [if_pos (by decide +kernel)]; kernel_rfl) | (rw [if_neg (by decide +kernel)]; exact ⟨rfl, rfl⟩))
    (fun os started H enc _ F => by rw [OpenClaim.pre_eq_preRow]; exact storeCounts_lifted os started H enc F)
theorem storeCountsCard_holds : Rows.StoreCountsCardSaid :=
  Claim7.holds_tied_plain_at .later [] [.handle, .data] true (true, "b7bd1e2e29b688aa281167e6180871ca34643c5c354714fdb60332ef6a4a105a") true
    storeCounts_said (fun _ h => by cases h) (by kernel_rfl) (fun _ h => by cases h) storeCounts_row_tie rfl ⟨rfl, rfl⟩ (by kernel_rfl) rfl
    (fun f fn hf hfn => by
      obtain rfl : f = 10 := Option.some.inj ((show Tryz.prog.funcNamed "guilloche/guillochelaw06.StoreCounts" = some 10 by kernel_rfl).symm.trans hf) |>.symm
      obtain rfl : fn = Tryz.f10 := (Option.some.inj (Tryz.func10.symm.trans hfn)).symm
      exact ⟨by kernel_rfl, fun j t ht => by
        rw [Tryz.params10] at ht
        have hm : t ∈ [68, 9] := by simpa using Array.mem_of_getElem? ht
        have hall : ([68, 9].all fun u => !Tryz.prog.wantsStandIn u) = true := by kernel_rfl
        exact (show Tryz.prog.wantsStandIn t = false by simpa using List.all_eq_true.1 hall t hm)⟩)
    (by kernel_rfl)
end
end Go.Proofs.YtjogjmffkmfmbaaGreatDoor
