/- The feed: the iterator over the queues, in order. -/
import Derived.Test.YtdempgabidbjfaaFeedG
import Derived.Test.YtdempgabidbjfaaShelf
import Derived.LoopIn
import Derived.LoopNIn
import Derived.OwnWalkIn
namespace Go.Proofs.Ytdempgabidbjfaa
open Go Go.RowKit
set_option linter.unusedSimpArgs false
set_option linter.unusedVariables false

attribute [local go_sem] Oper.semAt_some

theorem Try.uInts : Try.prog.underlying 27 = some (.slice 3) := by kernel_rfl
theorem Try.infoI : (Try.prog.info? 3).map (fun i => (i.zero, i.size, i.bytes)) = some (some (.int .i64 0), 1, 8) := by kernel_rfl

/-- The numbers, rising. -/
def sorted (l : List Int) : List Int := l.mergeSort fun x y => decide (x ≤ y)
def ints (l : List Int) : List Value := l.map fun x => .int .i64 x

theorem sort_c (w : World) (g cap n : Nat) (zs : List Int) (hzn : zs.length = n) (rest : List Value) (hb : Blk w g (.cells (ints zs ++ rest).toArray 3)) (hz : zs.length < 1000000) :
    Calls Try.prog 24 #[.slice (some ⟨g, 0, none⟩) n cap] w fun e w' =>
      e = .returned (.tuple #[]) ∧ Blk w' g (.cells (ints (sorted zs) ++ rest).toArray 3) ∧ Keeps (fun b => b = g) w w' := by
  subst hzn
  have hH : Go.Sort.Holds (Value.int .i64) w g 0 zs.toArray := by
    intro j hj
    have hj' : j < zs.length := by simpa using hj
    refine ⟨?_, hb.frozen⟩
    rw [Nat.zero_add]
    refine hb.cellL ?_
    rw [List.getElem?_append_left (by simpa [ints] using hj')]
    simp [ints, hj']
  refine (Try.slices_Sort_int g 0 cap zs w hH hb.lt (by omega)).mono ?_
  rintro e w' ⟨rfl, n, os, rfl⟩
  have hl : (sorted zs).length = zs.length := List.length_mergeSort _
  refine ⟨rfl, ?_, ?_⟩
  · show (Go.Sort.grow _ os).heap[g]? = _
    rw [Go.Sort.heap_grow_old _ _ (by simpa using hb.lt)]
    have hbh : w.heap[g]? = some (.cells (ints zs ++ rest).toArray 3) := hb
    simp only [Go.Sort.putRow, Go.Sort.mapBlock, Array.getElem?_modify, Go.Sort.heap_ahead, hbh]
    simp only [if_true, Option.map_some, Go.Sort.onCells, Option.some.injEq, Obj.cells.injEq, and_true]
    apply Array.ext_getElem?
    intro k
    simp only [Go.Sort.putCells, Array.getElem?_mapIdx, List.getElem?_toArray]
    show _ = (ints (sorted zs) ++ rest)[k]?
    have hs : ((zs.mergeSort fun x y => decide (x ≤ y)).toArray).size = zs.length := by simp
    by_cases hk : k < zs.length
    · have e1 : (ints zs ++ rest)[k]? = some (.int .i64 zs[k]) := by
        rw [List.getElem?_append_left (by simpa [ints] using hk)]; simp [ints, hk]
      have e2 : (ints (sorted zs) ++ rest)[k]? = some (.int .i64 ((sorted zs)[k]'(by omega))) := by
        rw [List.getElem?_append_left (by simp [ints, hl]; exact hk)]; simp [ints, hl, hk]
      rw [e1, e2]
      simp only [Option.map_some, Nat.zero_le, true_and, Nat.zero_add, hs, hk, if_true, Nat.sub_zero]
      rw [getElem!_pos _ k (by simpa using hk)]
      simp [sorted]
    · have e1 : (ints zs ++ rest)[k]? = (ints (sorted zs) ++ rest)[k]? := by
        rw [List.getElem?_append_right (by simp [ints]; omega), List.getElem?_append_right (by simp [ints, hl]; omega)]
        simp [ints, hl]
      rw [e1]
      cases (ints (sorted zs) ++ rest)[k]? with
      | none => rfl
      | some v => simp only [Option.map_some, Nat.zero_add, hs]; rw [if_neg (by omega)]
  · refine ⟨rfl, rfl, rfl, by simp, fun b hlt hne => ?_⟩
    show (Go.Sort.grow _ os).heap[b]? = _
    rw [Go.Sort.heap_grow_old _ _ (by simpa using hlt)]
    simp only [Go.Sort.putRow, Go.Sort.mapBlock, Array.getElem?_modify, Go.Sort.heap_ahead]
    rw [if_neg (fun e => hne e.symm)]

/-- What the iterator rests on: the variable that it captured, the feed's two blocks. -/
def InO (bx bf bm : Nat) (room : Int) (clock : Nat) (l : List (Ent Int)) (O : BSet) (W : World) : Prop :=
  (∀ b, O b ↔ b = bx ∨ b = bf ∨ b = bm) ∧ Blk W bx (.cells #[.pointer (some ⟨bf, 0, none⟩)] 24) ∧ Blk W bf (.cells #[.int .i64 room, .map (some bm)] 48) ∧ Blk W bm (.map (EI.arr l) clock)

theorem supp_InO (bx bf bm : Nat) (room : Int) (clock : Nat) (l : List (Ent Int)) : Supp (InO bx bf bm room clock l) :=
  ⟨fun O W ⟨h1, h2, h3, h4⟩ b hb => by
      rcases (h1 b).1 hb with rfl | rfl | rfl
      · exact h2.lt
      · exact h3.lt
      · exact h4.lt,
    fun O W W' ⟨h1, h2, h3, h4⟩ _ hb => ⟨h1, (hb _ ((h1 _).2 (.inl rfl))).trans h2, (hb _ ((h1 _).2 (.inr (.inl rfl)))).trans h3, (hb _ ((h1 _).2 (.inr (.inr rfl)))).trans h4⟩⟩

/-- The k-th value that is handed on. -/
def ioVals (l : List (Ent Int)) (k : Nat) : Array Value :=
  #[.int .i64 ((sorted (l.map (·.1))).getD k 0), (entGet l ((sorted (l.map (·.1))).getD k 0)).getD (.pointer none)]

theorem keys_len (l : List (Ent Int)) : (sorted (l.map (·.1))).length = l.length := by simp [sorted]

theorem sorted_perm {a b : List Int} (h : a.Perm b) : sorted a = sorted b := by
  have tr : ∀ a b c : Int, decide (a ≤ b) = true → decide (b ≤ c) = true → decide (a ≤ c) = true := by intro a b c h1 h2; simp at *; omega
  have to : ∀ a b : Int, (decide (a ≤ b) || decide (b ≤ a)) = true := by intro a b; simp; omega
  refine List.Perm.eq_of_pairwise (le := fun x y => decide (x ≤ y) = true) (fun x y _ _ h1 h2 => by simp at h1 h2; omega) (List.pairwise_mergeSort tr to a) (List.pairwise_mergeSort tr to b) ?_
  exact (List.mergeSort_perm a _).trans (h.trans (List.mergeSort_perm b _).symm)

def sliceLen : Value → Nat | .slice _ n _ => n | _ => 0

/-- The iterator's first loop. -/
def IoRel (W : World) (g r bm clock : Nat) (l : List (Ent Int)) (v : Value) (wr : World) : Prop :=
  ∃ (done : List (Ent Int)) (tail : List Value), v = .slice (some ⟨g, 0, none⟩) done.length l.length ∧ (done.map (·.1)).Nodup ∧ (∀ x ∈ done, x ∈ l) ∧
    Blk wr g (.cells (ints (done.map (·.1)) ++ tail).toArray 3) ∧ done.length + tail.length = l.length ∧
    Blk wr r (.mapIter (some bm) clock (done.map (·.2.2)).toArray clock) ∧ Ext W wr

/-- The iterator's second loop. -/
def IoRel2 (W : World) (g : Nat) (l : List (Ent Int)) (C : Nat → BSet → World → Prop) (D : BSet) (v : Value) (wr : World) : Prop :=
  ∃ (k : Nat) (Dk : BSet), v = .int .i64 k ∧ k ≤ l.length ∧ C k Dk wr ∧ (∀ b, Dk b → D b ∨ W.heap.size ≤ b) ∧ ¬ Dk g ∧
    Blk wr g (.cells (ints (sorted (l.map (·.1)))).toArray 3) ∧ Keeps D W wr

set_option maxHeartbeats 2000000 in
theorem inOrder_it (bx bf bm : Nat) (room : Int) (clock : Nat) (l : List (Ent Int)) (hbne : bx ≠ bm) (hlen : l.length ≤ 1000) (hst : (l.map (·.2.2)).Nodup) (hkn : (l.map (·.1)).Nodup) (hlt : ∀ x ∈ l, x.2.2 < clock) :
    IterC Try.prog 23 #[.pointer (some ⟨bx, 0, none⟩)] l.length (ioVals l) (fun _ => False) (InO bx bf bm room clock l) (fun _ => InO bx bf bm room clock l) := by
  intro y C Cx hC hCx D O W hY h0 hS hdis
  obtain ⟨hO, hx, hf, hm⟩ := hS
  have c1 := hx.cell (i := 0) (by rfl)
  have c2 := hf.cell (i := 1) (v := .map (some bm)) (by rfl)
  have hln := run_len_map EI Try.uMap hm
  have hn0 : (0 : Int) ≤ l.length := by omega
  obtain ⟨i0, hi, hz0, hz1, hz2⟩ := info_parts Try.infoI
  refine callsIn_of_wp Try.func23 rfl trivial ?_ rfl
  simp only [Try.ntmps23, List.size_toArray, List.length_cons, List.length_nil, Nat.reduceAdd, Nat.reduceSub, Array.replicate_succ, Array.replicate_zero, List.push_toArray, List.append_toArray, List.nil_append, List.cons_append]
  gi_wp2_with (gi_at_make; refine wpListIn_make_own _ rfl (.const (.int .i64 0)) (.tmp 11) 27 rfl 0 3 i0 (.int .i64 0) 1 Try.uInts hi hz0 hz1 .i64 .i64 _ l.length rfl rfl rfl (by rw [hz2]; omega) (by unfold maxLen; omega) (Nat.zero_le _) ?_)
  intro w1 own1 grow1
  have k1 : Ext W w1 := Keeps.of_grown grow1 (fun _ e => by cases e)
  obtain ⟨_, ⟨e, _⟩ | ⟨g, cap, cur, e, _, b1, _, _, cs1, _⟩⟩ := own1
  · cases e
  cases e
  have B1 : Blk w1 W.heap.size (.cells cur.toList.toArray 3) := by simpa using (show Blk w1 W.heap.size _ from b1)
  have X1 := hx.keeps k1 (fun g => g)
  have F1 := hf.keeps k1 (fun g => g)
  have M1 := hm.keeps k1 (fun g => g)
  have x1 := X1.cell (i := 0) (by rfl)
  have f1 := F1.cell (i := 1) (v := .map (some bm)) (by rfl)
  have hrg := run_range EI Try.uMap M1
  have HO := Lib.hid hO
  clear hO
  have hxlt := hx.lt
  have hflt := hf.lt
  have hmlt := hm.lt
  have hs1 := k1.size
  have B1' := Lib.hid B1
  have cs1' := Lib.hid (show cur.toList.length = l.length by simpa using cs1)
  have K1 := Lib.hid k1
  clear grow1 b1 cs1 B1 k1
  gi_wp2_with fail
  gi_loopw [3] (fun v wr => IoRel W W.heap.size w1.heap.size bm clock l v wr) (fun v _ => l.length - sliceLen v)
  case atStart =>
    refine ⟨[], cur.toList, rfl, by simp, by simp, ?_, by simpa using cs1'.out, Blk.new w1 _, K1.out.alloc _⟩
    simpa [ints] using B1'.out.alloc (.mapIter (some bm) clock #[] clock)
  case round =>
    obtain ⟨done, tail, rfl, d1, d2, d3, d4, d5, d6⟩ := hrel
    have X2 := hx.keeps d6 (fun g => g)
    have F2 := hf.keeps d6 (fun g => g)
    have M2 := hm.keeps d6 (fun g => g)
    rcases run_next EI M2 d5 hlt 0 with ⟨hl0, hnx⟩ | ⟨x, hxl, w2, hnx, hr2, hk2⟩
    · have hsub : ∀ x ∈ l, x.1 ∈ done.map (·.1) := by
        intro x hx
        by_cases hc : x.2.2 ∈ done.map (·.2.2)
        · obtain ⟨z, hz, e⟩ := List.mem_map.1 hc
          have := nodup_map_inj hst (d2 z hz) hx e
          exact List.mem_map.2 ⟨z, hz, by rw [this]⟩
        · have : x ∈ entLeft l (done.map (·.2.2)).toArray := by
            refine List.mem_filter.2 ⟨hx, ?_⟩
            simpa using hc
          rw [hl0] at this; cases this
      have hp : (done.map (·.1)).Perm (l.map (·.1)) := perm_of_mem_iff d1 hkn fun k => by
        constructor
        · intro hk; obtain ⟨z, hz, e⟩ := List.mem_map.1 hk; exact List.mem_map.2 ⟨z, d2 z hz, e⟩
        · intro hk; obtain ⟨z, hz, e⟩ := List.mem_map.1 hk; exact e ▸ hsub z hz
      have hdl : done.length = l.length := by simpa using hp.length_eq
      have htl : tail = [] := List.eq_nil_of_length_eq_zero (by omega)
      have hsd := sorted_perm hp
      subst htl
      have SC := Lib.hid (sort_c wr W.heap.size l.length done.length (done.map (·.1)) (by simp) [] d3 (by simp; omega))
      have D6 := Lib.hid d6
      have HSD := Lib.hid hsd
      have HDL := Lib.hid hdl
      clear d1 d2 d3 d4 d5 d6 hl0 hsub hp hsd X2 F2 M2 hdl
      gi_wp2_with fail
      refine ⟨trivial, rfl, CallsIn.mono (callsIn_wide.2 SC.out) ?_⟩
      rintro e w3 ⟨rfl, b3, k3⟩
      rw [HSD.out, List.append_nil] at b3
      have E3 := Lib.hid (((D6.out.mono (G := fun b => W.heap.size ≤ b) (fun _ _ g => g.elim)).trans' k3 (fun z hz e => by omega)).mono (G := fun _ => False) (fun z hz e => by omega))
      have B3 := Lib.hid b3
      clear b3 k3
      gi_wp2_with fail
      gi_loopw [30] (fun v wr => IoRel2 W W.heap.size l C D v wr) (fun v _ => l.length - (intOf v).toNat)
      case atStart =>
        refine ⟨0, D, rfl, Nat.zero_le _, (hC 0).keeps h0 E3.out (fun _ _ g => g), fun b hb => .inl hb, fun hb => by have := (hC 0).lt _ _ h0 _ hb; omega, B3.out, E3.out.mono (fun _ _ g => g.elim)⟩
      case round =>
        obtain ⟨k, Dk, rfl, hk, hCk, hDk, hDg, hB, hKp⟩ := hrel
        have hOk : ∀ b, Dk b → ¬ O b := fun b hb ho => by
          rcases hDk b hb with h | h
          · exact hdis b h ho
          · rcases (HO.out b).1 ho with rfl | rfl | rfl <;> omega
        have nO : ¬ D bx ∧ ¬ D bf ∧ ¬ D bm := ⟨fun h => hdis _ h ((HO.out _).2 (.inl rfl)), fun h => hdis _ h ((HO.out _).2 (.inr (.inl rfl))), fun h => hdis _ h ((HO.out _).2 (.inr (.inr rfl)))⟩
        have X4 := hx.keeps hKp nO.1
        have F4 := hf.keeps hKp nO.2.1
        have M4 := hm.keeps hKp nO.2.2
        by_cases hlk : k < l.length
        · obtain ⟨kv, hkv⟩ : ∃ kv, kv = (sorted (l.map (·.1))).getD k 0 := ⟨_, rfl⟩
          obtain ⟨pv, hpv⟩ : ∃ pv, pv = (entGet l kv).getD (.pointer none) := ⟨_, rfl⟩
          have hcell : wr.cell? ⟨W.heap.size, k, none⟩ = some (.int .i64 kv) := by
            refine hB.cellL ?_
            rw [hkv]
            simp [ints, keys_len, hlk]
          have hlook : (Instr.lookup 46 (.map (some bm)) (.int .i64 kv) false).run Try.prog wr = .ok pv wr := by rw [hpv]; exact run_lookup EI Try.uMap M4 (Try.zeroQ wr) kv false
          obtain ⟨fn, tm, asg, bd, hyr, hrd⟩ := hY k Dk wr hlk hCk (hKp.mono fun _ _ h => .inl h)
          have hyr' : (Instr.yield y #[.int .i64 kv, pv]).run Try.prog wr = .ok (.round y fn tm asg bd) wr := by
            rw [hpv, hkv]; exact hyr
          have x4 := X4.cell (i := 0) (by rfl)
          have f4 := F4.cell (i := 1) (v := .map (some bm)) (by rfl)
          have HD := Lib.hid HDL.out
          have hdk : (k : Int) < done.length := by have := HDL.out; omega
          have hdk' : k < done.length := by omega
          have hkb : k ≤ 1000 := by omega
          have HB := Lib.hid hB
          have HK := Lib.hid hKp
          have HC := Lib.hid hCk
          have HDk := Lib.hid hDk
          have HOk := Lib.hid hOk
          have Hlk := Lib.hid hlk
          clear hyr hkv hpv hB hKp hCk X4 F4 M4
          gi_wp2_with fail
          refine ⟨rfl, hrd.mono ?_⟩
          rintro e w5 ⟨D5, k5, s5, ⟨rfl, C5⟩ | ⟨rfl, C5⟩⟩
          · have R5 : IoRel2 W W.heap.size l C D (.int .i64 (↑(k + 1) : Int)) w5 :=
              ⟨k + 1, D5, rfl, Hlk.out, C5, fun b hb => by
                rcases s5 b hb with h | h
                · exact HDk.out b h
                · exact .inr (by have := HK.out.size; omega), fun hb => by
                rcases s5 _ hb with h | h
                · exact hDg h
                · have := HB.out.lt; omega, HB.out.keeps k5 hDg, HK.out.trans' k5 (fun z hz h => by
                rcases HDk.out z h with h | h
                · exact h
                · omega)⟩
            have HR := Lib.hid R5
            clear R5 C5 k5 s5
            gi_wp2
            go_roundw
            case rel => exact HR.out
            case measure => have := Hlk.out; simp [intOf]; omega
          · have HX : ∃ D' O' : BSet, Keeps (fun b => D b ∨ False) W w5 ∧ (∀ b, D' b → D b ∨ W.heap.size ≤ b) ∧ (∀ b, O' b → O b ∨ W.heap.size ≤ b) ∧ (∀ b, D' b → ¬ O' b) ∧
                ((C l.length D' w5 ∧ InO bx bf bm room clock l O' w5) ∨ ∃ k, k ≤ l.length ∧ 0 < k ∧ Cx k D' w5 ∧ InO bx bf bm room clock l O' w5) := by
              have kk : Keeps D W w5 := HK.out.trans' k5 (fun z hz h => by
                rcases HDk.out z h with h | h
                · exact h
                · omega)
              refine ⟨D5, O, kk.mono (fun _ _ h => .inl h), fun b hb => ?_, fun b hb => .inl hb, fun b hb ho => ?_, .inr ⟨k + 1, Hlk.out, by omega, C5, HO.out, hx.keeps kk nO.1, hf.keeps kk nO.2.1, hm.keeps kk nO.2.2⟩⟩
              · rcases s5 b hb with h | h
                · exact HDk.out b h
                · exact .inr (by have := HK.out.size; omega)
              · rcases s5 b hb with h | h
                · exact HOk.out b h ho
                · have := HK.out.size
                  rcases (HO.out b).1 ho with rfl | rfl | rfl <;> omega
            have HH := Lib.hid HX
            clear HX C5 k5 s5
            gi_wp2
            refine bodyPost_ret (results_none rfl _ _ _) rfl ?_
            exact ⟨⟨_, rfl⟩, HH.out⟩
        · have hkl : k = l.length := by omega
          subst hkl
          have HX : ∃ D' O' : BSet, Keeps (fun b => D b ∨ False) W wr ∧ (∀ b, D' b → D b ∨ W.heap.size ≤ b) ∧ (∀ b, O' b → O b ∨ W.heap.size ≤ b) ∧ (∀ b, D' b → ¬ O' b) ∧
                ((C l.length D' wr ∧ InO bx bf bm room clock l O' wr) ∨ ∃ k, k ≤ l.length ∧ 0 < k ∧ Cx k D' wr ∧ InO bx bf bm room clock l O' wr) :=
            ⟨Dk, O, hKp.mono (fun _ _ h => .inl h), hDk, fun b hb => .inl hb, hOk, .inl ⟨hCk, HO.out, X4, F4, M4⟩⟩
          have HH := Lib.hid HX
          have hnl : ¬ ((l.length : Int) < done.length) := by have := HDL.out; omega
          clear HX hKp hB hCk hDk hOk X4 F4 M4
          gi_wp2
          go_end0
          exact ⟨⟨_, rfl⟩, HH.out⟩
    · have hxm : x ∈ l := (List.mem_filter.1 hxl).1
      have hxs : x.2.2 ∉ done.map (·.2.2) := by have := (List.mem_filter.1 hxl).2; simpa using this
      have hxk : x.1 ∉ done.map (·.1) := by
        intro hc
        obtain ⟨z, hz, e⟩ := List.mem_map.1 hc
        have := nodup_map_inj hkn (d2 z hz) hxm e
        exact hxs (List.mem_map.2 ⟨z, hz, by rw [this]⟩)
      have hnd : ((done ++ [x]).map (·.1)).Nodup := by
        rw [List.map_append, List.nodup_append]
        exact ⟨d1, by simp, fun a ha b hb e => by simp at hb; subst hb; subst e; exact hxk ha⟩
      have hall : ∀ z ∈ done ++ [x], z ∈ l := fun z hz => by
        rcases List.mem_append.1 hz with h | h
        · exact d2 z h
        · simp at h; exact h ▸ hxm
      have hroom : done.length + 1 ≤ l.length := by
        have := List.Nodup.length_le_of_subset hnd (l₂ := l.map (·.1)) (fun k hk => by
          obtain ⟨z, hz, e⟩ := List.mem_map.1 hk; exact List.mem_map.2 ⟨z, hall z hz, e⟩)
        simpa using this
      have hgr : W.heap.size ≠ w1.heap.size := by
        intro e
        have := d3.uniq (e ▸ d5)
        cases this
      have d5' := hr2
      have E2 : Ext W w2 := ((d6.mono (G := fun b => W.heap.size ≤ b) (fun _ _ g => g.elim)).trans' hk2 (fun z hz e => by omega)).mono (G := fun _ => False) (fun z hz e => by omega)
      have M3 := hm.keeps E2 (fun g => g)
      have hen : (Instr.entry (.pointer (some ⟨w1.heap.size, 0, none⟩))).run Try.prog w2 = .ok (.tuple #[.int .i64 x.1, x.2.1]) w2 := run_entry EI M3 hxm hr2 hst
      have hnx' : (Instr.next (.pointer (some ⟨w1.heap.size, 0, none⟩)) false 0).run Try.prog wr = .ok (.tuple #[.bool true, .int .i64 x.1, x.2.1]) w2 := hnx
      have G3 := d3.keeps hk2 hgr
      have own3 : w2.ownsRow 0 3 1 (.slice (some ⟨W.heap.size, 0, none⟩) done.length l.length) done.length (ints (done.map (·.1))) :=
        ⟨by simp [ints], .inr ⟨_, _, _, rfl, Nat.zero_le _, G3, by omega, by unfold maxLen; omega, by simp [ints]; omega, by simp [ints]⟩⟩
      have OWN := Lib.hid own3
      have HND := Lib.hid hnd
      have HALL := Lib.hid hall
      have E2' := Lib.hid E2
      have HR2 := Lib.hid hr2
      have G3l := G3.lt
      clear hnx d1 d2 d3 d5 d5' d6 hr2 hk2 hxl own3 hnd hall E2 X2 F2 M2 M3 G3
      gi_wp2_with (gi_at_builtin; refine wpListIn_append_fits _ rfl (.tmp 22) (.tmp 24) 27 rfl 0 3 i0 1 Try.uInts hi hz1 W.heap.size done.length l.length _ rfl (World.ownsRow.alloc OWN.out _) ⟨w2.heap.size, 0, none⟩ 1 1 [.int .i64 x.1] rfl rfl (news_new _ _ _) (by simp [Value.oneCell']) hroom ?_)
      intro w6 own6 gr6
      have E6 : Ext W w6 := ((E2'.out.alloc (.cells #[.int .i64 x.1] 3)).mono (G := fun b => W.heap.size ≤ b) (fun _ _ g => g.elim)).trans' (Keeps.of_grown (F := fun b => b = W.heap.size) gr6 (fun r e _ => by cases e; rfl)) (fun z hz e => by omega) |>.mono (G := fun _ => False) (fun z hz e => by omega)
      have R6 : IoRel W W.heap.size w1.heap.size bm clock l (.slice (some ⟨W.heap.size, 0, none⟩) (done.length + 1) l.length) w6 := by
        obtain ⟨_, ⟨e, _⟩ | ⟨g, cap, cur, e, _, b6, _, _, cs6, ct6⟩⟩ := own6
        · cases e
        cases e
        refine ⟨done ++ [x], cur.toList.drop (done.length + 1), by simp, HND.out, HALL.out, ?_, by simp; omega, ?_, E6⟩
        · have e1 : ints ((done ++ [x]).map (·.1)) = cur.toList.take (done.length + 1) := by
            rw [Nat.mul_one] at ct6; rw [ct6]; simp [ints]
          rw [e1, List.take_append_drop]; simpa using (show Blk w6 _ _ from b6)
        · have : Blk w6 w1.heap.size (.mapIter (some bm) clock ((done.map (·.2.2)).toArray.push x.2.2) clock) :=
            (HR2.out.alloc _).keeps (Keeps.of_grown (F := fun b => b = W.heap.size) gr6 (fun r e _ => by cases e; rfl)) (fun e => hgr e.symm)
          simpa using this
      have HR6 := Lib.hid R6
      clear R6 E6 own6 gr6
      gi_wp2
      go_roundw
      case rel => exact HR6.out
      case measure => simp [sliceLen]; omega
end Go.Proofs.Ytdempgabidbjfaa
