/- Parts of the proof, one behind the other: DropA, DropB, DropC, StoreBh, Same2, StoreK, StoreN. Each is under no condition but those that it states. -/
import Derived.Test.YtjogjmffkmfmbaaGreatDoorPc33
import Derived.Test.YtjogjmffkmfmbaaGreatDoorPc34
import Derived.Test.YtjogjmffkmfmbaaGreatDoorPc24
import Derived.Test.YtjogjmffkmfmbaaGreatDoorPc21
/- store, plain: what Add of any nodes, and Drop, leave of the counts. -/
namespace Go.Proofs.YtjogjmffkmfmbaaGreatDoor
section
open Go Go.RowKit
set_option linter.unusedSimpArgs false
set_option linter.unusedVariables false
attribute [local go_sem] Oper.semAt_some
def refsS (S : List Nd5) : List ByteArray := S.flatMap fun y => y.2.2.refs
/-- How often each is referred to is counted; what is referred to is there. -/
structure Cnt (S : List Nd5) : Prop where
  used : ∀ x ∈ S, x.2.2.used = (cK (refsS S) x.1 : Int)
  shut : ∀ r ∈ refsS S, r.data.toList ∈ S.map (·.1)
  held : ∀ x ∈ S, 0 ≤ x.2.2.held
  r16 : ∀ x ∈ S, x.2.2.refs.length ≤ 16
def heldS (S : List Nd5) : Int := (S.map fun x => x.2.2.held).sum
theorem Cnt.none : Cnt [] := ⟨by simp, by simp [refsS], by simp, by simp⟩
theorem refsS_len {S : List Nd5} (h : ∀ x ∈ S, x.2.2.refs.length ≤ 16) : (refsS S).length ≤ 16 * S.length := by
  induction S with
  | nil => simp [refsS]
  | cons x r ih =>
    have h1 := ih fun y hy => h y (List.mem_cons_of_mem _ hy)
    have h2 := h x List.mem_cons_self
    have e : refsS (x :: r) = x.2.2.refs ++ refsS r := by simp [refsS]
    rw [e, List.length_append, List.length_cons]; omega
theorem cK_le (T : List ByteArray) (k : Key) : cK T k ≤ T.length := by
  unfold cK; have := List.count_le_length (a := k) (l := T.map (·.data.toList)); rwa [List.length_map] at this
theorem cK_has {T : List ByteArray} {k : Key} (h : 0 < cK T k) : ∃ r ∈ T, r.data.toList = k := by
  unfold cK at h
  obtain ⟨r, hr, e⟩ := List.mem_map.1 (List.count_pos_iff.1 h)
  exact ⟨r, hr, e⟩
theorem Cnt.bd {S : List Nd5} (h : Cnt S) (hl : S.length ≤ 1000) : ∀ x ∈ S, 0 ≤ x.2.2.used ∧ x.2.2.used ≤ 16000 := fun x hx => by
  have h1 := h.used x hx
  have h2 := cK_le (refsS S) x.1
  have h3 := refsS_len h.r16
  omega
/-! What Drop takes away. -/
def lessU (T : List ByteArray) (x : Nd5) : Nd5 := (x.1, x.2.1, ⟨x.2.2.text, x.2.2.refs, x.2.2.used - (cK T x.1 : Int), x.2.2.held⟩)
def decU (k : Key) (L : List Nd5) : List Nd5 := L.map fun x => if x.1 = k then (x.1, x.2.1, putF 2 (x.2.2.used - 1) x.2.2) else x
theorem lessU_nil (S : List Nd5) : S.map (lessU []) = S := by
  have : (lessU [] : Nd5 → Nd5) = id := funext fun x => by
    unfold lessU cK; simp
  rw [this, List.map_id]
theorem lessU_snoc (T : List ByteArray) (r : ByteArray) (S : List Nd5) : S.map (lessU (T ++ [r])) = decU r.data.toList (S.map (lessU T)) := by
  unfold decU
  rw [List.map_map]
  refine List.map_congr_left fun x _ => ?_
  simp only [Function.comp]
  have hc : cK (T ++ [r]) x.1 = cK T x.1 + (if x.1 = r.data.toList then 1 else 0) := by
    rw [cK_app]
    congr 1
    have := cK_cons r [] x.1
    rw [this]; simp [cK]
  by_cases e : x.1 = r.data.toList
  · rw [if_pos e] at hc
    rw [if_pos (show (lessU T x).1 = r.data.toList from e)]
    unfold lessU putF
    simp only [if_true]
    rw [hc]
    refine congrArg (fun z => (x.1, x.2.1, z)) ?_
    congr 1
    push_cast
    omega
  · rw [if_neg e] at hc
    rw [if_neg (show ¬ (lessU T x).1 = r.data.toList from e)]
    unfold lessU
    rw [hc]; simp
theorem lessU_keys (T : List ByteArray) (S : List Nd5) : (S.map (lessU T)).map (·.1) = S.map (·.1) := by rw [List.map_map]; rfl
theorem lessU_refs (T : List ByteArray) (S : List Nd5) : refsS (S.map (lessU T)) = refsS S := by
  unfold refsS; rw [List.flatMap_map]; rfl
theorem setB_dec {W : World} {bm : Nat} {L : List Nd5} (h : MapAt W bm L) {k : Key} {y : Nd5} (hy : atL L k = some y) : L.map (setB 2 y.2.1 (y.2.2.used - 1)) = decU k L := by
  obtain ⟨es, ck, _, h2⟩ := h.mp
  have hk := h2.keys
  rw [List.map_map] at hk
  have hk : (L.map (·.1)).Nodup := hk
  unfold decU
  refine List.map_congr_left (fun x hx => ?_)
  unfold setB
  by_cases e : x.2.1 = y.2.1
  · have : x = y := nodup_map_inj h.blks hx (atL_mem hy).1 e
    subst this
    rw [if_pos rfl, if_pos (atL_mem hy).2]
  · rw [if_neg e, if_neg]
    intro e2
    have : x = y := nodup_map_inj hk hx (atL_mem hy).1 (e2.trans (atL_mem hy).2.symm)
    subst this
    exact e rfl
theorem del_refs {S : List Nd5} (hn : (S.map (·.1)).Nodup) {y : Nd5} (hy : y ∈ S) (k : Key) : cK (refsS S) k = cK y.2.2.refs k + cK (refsS (delL S y.1)) k := by
  induction S with
  | nil => cases hy
  | cons x r ih =>
    rw [List.map_cons, List.nodup_cons] at hn
    have e : refsS (x :: r) = x.2.2.refs ++ refsS r := by simp [refsS]
    rw [e, cK_app]
    rcases List.mem_cons.1 hy with rfl | hy
    · have : delL (y :: r) y.1 = r := by
        unfold delL
        rw [List.filter_cons_of_neg (by simp), List.filter_eq_self]
        intro z hz
        have : y.1 ≠ z.1 := fun e => hn.1 (List.mem_map.2 ⟨z, hz, e.symm⟩)
        simpa using this
      rw [this]
    · have hne : y.1 ≠ x.1 := fun e => hn.1 (List.mem_map.2 ⟨y, hy, e⟩)
      have : delL (x :: r) y.1 = x :: delL r y.1 := by unfold delL; rw [List.filter_cons_of_pos (by simpa using hne)]
      rw [this, ih hn.2 hy]
      have e2 : refsS (x :: delL r y.1) = x.2.2.refs ++ refsS (delL r y.1) := by simp [refsS]
      rw [e2, cK_app]; omega
theorem del_less (T : List ByteArray) (S : List Nd5) (k : Key) : delL (S.map (lessU T)) k = (delL S k).map (lessU T) := by
  unfold delL; rw [List.filter_map]; rfl
theorem del_mem {S : List Nd5} {k : Key} {x : Nd5} : x ∈ delL S k ↔ x ∈ S ∧ x.1 ≠ k := by
  unfold delL; rw [List.mem_filter]
  simp only [Bool.not_eq_true', decide_eq_false_iff_not]
  exact ⟨fun h => ⟨h.1, fun e => h.2 e.symm⟩, fun h => ⟨h.1, fun e => h.2 e.symm⟩⟩
theorem cnt_del {S : List Nd5} (hn : (S.map (·.1)).Nodup) (h : Cnt S) {y : Nd5} (hy : y ∈ S) (h0 : y.2.2.used = 0) : Cnt (delL (S.map (lessU y.2.2.refs)) y.1) := by
  rw [del_less]
  have hy0 : cK (refsS S) y.1 = 0 := by have := h.used y hy; omega
  refine ⟨fun x hx => ?_, fun r hr => ?_, fun x hx => ?_, fun x hx => ?_⟩
  · obtain ⟨z, hz, rfl⟩ := List.mem_map.1 hx
    have h1 := h.used z (del_mem.1 hz).1
    have h2 := del_refs hn hy z.1
    show z.2.2.used - (cK y.2.2.refs z.1 : Int) = (cK (refsS ((delL S y.1).map (lessU y.2.2.refs))) z.1 : Int)
    rw [lessU_refs]; omega
  · rw [lessU_refs] at hr
    rw [lessU_keys]
    have hrS : r ∈ refsS S := by
      obtain ⟨z, hz, hr⟩ := List.mem_flatMap.1 hr
      exact List.mem_flatMap.2 ⟨z, (del_mem.1 hz).1, hr⟩
    obtain ⟨z, hz, e⟩ := List.mem_map.1 (h.shut r hrS)
    refine List.mem_map.2 ⟨z, del_mem.2 ⟨hz, fun e2 => ?_⟩, e⟩
    have := cK_pos hrS
    rw [← e, e2] at this
    omega
  · obtain ⟨z, hz, rfl⟩ := List.mem_map.1 hx
    exact h.held z (del_mem.1 hz).1
  · obtain ⟨z, hz, rfl⟩ := List.mem_map.1 hx
    exact h.r16 z (del_mem.1 hz).1
theorem heldS_less (T : List ByteArray) (S : List Nd5) : heldS (S.map (lessU T)) = heldS S := by
  unfold heldS; rw [List.map_map]; rfl
theorem heldS_del {S : List Nd5} (hn : (S.map (·.1)).Nodup) {y : Nd5} (hy : y ∈ S) : heldS S = y.2.2.held + heldS (delL S y.1) := by
  induction S with
  | nil => cases hy
  | cons x r ih =>
    rw [List.map_cons, List.nodup_cons] at hn
    have e : ∀ (a : Nd5) b, heldS (a :: b) = a.2.2.held + heldS b := fun a b => by unfold heldS; rw [List.map_cons, List.sum_cons]
    rw [e]
    rcases List.mem_cons.1 hy with rfl | hy
    · have : delL (y :: r) y.1 = r := by
        unfold delL
        rw [List.filter_cons_of_neg (by simp), List.filter_eq_self]
        intro z hz
        have : y.1 ≠ z.1 := fun e => hn.1 (List.mem_map.2 ⟨z, hz, e.symm⟩)
        simpa using this
      rw [this]
    · have hne : y.1 ≠ x.1 := fun e => hn.1 (List.mem_map.2 ⟨y, hy, e⟩)
      have : delL (x :: r) y.1 = x :: delL r y.1 := by unfold delL; rw [List.filter_cons_of_pos (by simpa using hne)]
      rw [this, e, ih hn.2 hy]; omega
/-- A held count is set. -/
theorem heldS_set {S : List Nd5} (hn : (S.map (·.1)).Nodup) (hb : (S.map (·.2.1)).Nodup) {y : Nd5} (hy : y ∈ S) (v : Int) : heldS (S.map (setB 3 y.2.1 v)) = heldS S + v - y.2.2.held := by
  have e : ∀ (a : Nd5) b, heldS (a :: b) = a.2.2.held + heldS b := fun a b => by unfold heldS; rw [List.map_cons, List.sum_cons]
  clear hn
  induction S with
  | nil => cases hy
  | cons x r ih =>
    rw [List.map_cons, List.nodup_cons] at hb
    rw [List.map_cons, e, e]
    rcases List.mem_cons.1 hy with rfl | hy
    · have h1 : (setB 3 y.2.1 v y).2.2.held = v := by unfold setB putF; simp
      have h2 : r.map (setB 3 y.2.1 v) = r := by
        conv => rhs; rw [← List.map_id r]
        refine List.map_congr_left fun z hz => ?_
        unfold setB
        rw [if_neg (fun e => hb.1 (List.mem_map.2 ⟨z, hz, e⟩))]; rfl
      rw [h1, h2]; omega
    · have hne : ¬ x.2.1 = y.2.1 := fun e => hb.1 (List.mem_map.2 ⟨y, hy, e.symm⟩)
      have h1 : setB 3 y.2.1 v x = x := by unfold setB; rw [if_neg hne]
      rw [h1, ih hb.2 hy]; omega
theorem setB3_keys (c : Nat) (v : Int) (S : List Nd5) : (S.map (setB 3 c v)).map (·.1) = S.map (·.1) := by
  rw [List.map_map]
  refine List.map_congr_left fun x _ => ?_
  simp only [Function.comp, setB]; split <;> rfl
theorem setB3_used (c : Nat) (v : Int) (x : Nd5) : (setB 3 c v x).2.2.used = x.2.2.used ∧ (setB 3 c v x).2.2.refs = x.2.2.refs ∧ (setB 3 c v x).1 = x.1 ∧ (setB 3 c v x).2.2.text = x.2.2.text ∧ (setB 3 c v x).2.1 = x.2.1 := by
  unfold setB putF; split <;> simp
theorem setB3_refs (c : Nat) (v : Int) (S : List Nd5) : refsS (S.map (setB 3 c v)) = refsS S := by
  unfold refsS; rw [List.flatMap_map]
  have : (fun x => (setB 3 c v x).2.2.refs) = fun x : Nd5 => x.2.2.refs := funext fun x => (setB3_used c v x).2.1
  rw [this]
theorem cnt_set {S : List Nd5} (h : Cnt S) (c : Nat) {v : Int} (hv : 0 ≤ v) : Cnt (S.map (setB 3 c v)) := by
  refine ⟨fun x hx => ?_, fun r hr => ?_, fun x hx => ?_, fun x hx => ?_⟩
  · obtain ⟨z, hz, rfl⟩ := List.mem_map.1 hx
    rw [setB3_refs, (setB3_used c v z).1, (setB3_used c v z).2.2.1]; exact h.used z hz
  · rw [setB3_refs] at hr; rw [setB3_keys]; exact h.shut r hr
  · obtain ⟨z, hz, rfl⟩ := List.mem_map.1 hx
    unfold setB putF
    by_cases e : z.2.1 = c
    · rw [if_pos e]; exact hv
    · rw [if_neg e]; exact h.held z hz
  · obtain ⟨z, hz, rfl⟩ := List.mem_map.1 hx
    rw [(setB3_used c v z).2.1]; exact h.r16 z hz
end
end Go.Proofs.YtjogjmffkmfmbaaGreatDoor
/- store: a store whose rows lie below a mark; Drop of any root. -/
namespace Go.Proofs.YtjogjmffkmfmbaaGreatDoor
section
open Go Go.RowKit
set_option linter.unusedSimpArgs false
set_option linter.unusedVariables false
attribute [local go_sem] Oper.semAt_some
/-- An item, its block and its row below a mark. -/
def ItemLo (z : Nat) (W : World) (b : Nat) (it : It) : Prop := b < z ∧ ∃ rv, Blk W b (.cells #[.string it.text, rv, .int .i64 it.used, .int .i64 it.held] 101) ∧ W.ownsRow 0 9 1 rv it.refs.length (it.refs.map Value.string) ∧ ∀ c, rv.ownBlock = some c → c < z
structure StoreLo (z : Nat) (W : World) (s bm : Nat) (room : Int) (S : List Nd5) : Prop where
  st : StoreAt W s bm room S
  s0 : s < z
  b0 : bm < z
  lo : ∀ x ∈ S, ItemLo z W x.2.1 x.2.2
theorem StoreAt.low {W : World} {s bm : Nat} {room : Int} {S : List Nd5} (h : StoreAt W s bm room S) : StoreLo W.heap.size W s bm room S := by
  obtain ⟨es, ck, h1, _⟩ := h.mp.mp
  refine ⟨h, h.st.lt, h1.lt, fun x hx => ?_⟩
  obtain ⟨rv, h1, h2⟩ := (h.mp.items x hx).cells
  exact ⟨h1.lt, rv, h1, h2, fun c hc => (World.ownsRow.lt h2 c hc).2⟩
theorem ItemLo.past {z : Nat} {W W' : World} {b : Nat} {it : It} {F : BSet} (h : ItemLo z W b it) (k : Keeps F W W') (hF : ∀ c, F c → z ≤ c) : ItemLo z W' b it := by
  obtain ⟨hb, rv, h1, h2, h3⟩ := h
  exact ⟨hb, rv, h1.keeps k (fun f => by have := hF b f; omega), own_keeps h2 k (fun c hc f => by have := hF c f; have := h3 c hc; omega), h3⟩
theorem StoreLo.past {z : Nat} {W W' : World} {s bm : Nat} {room : Int} {S : List Nd5} {F : BSet} (h : StoreLo z W s bm room S) (k : Keeps F W W') (hF : ∀ c, F c → z ≤ c) : StoreLo z W' s bm room S := by
  have hlo := fun x hx => (h.lo x hx).past k hF
  obtain ⟨es, ck, h1, h2⟩ := h.st.mp.mp
  refine ⟨⟨h.st.st.keeps k (fun f => by have := hF s f; have := h.s0; omega), ⟨es, ck, h1.keeps k (fun f => by have := hF bm f; have := h.b0; omega), h2⟩, h.st.mp.blks, fun x hx => ?_⟩, h.s0, h.b0, hlo⟩
  obtain ⟨_, rv, h3, h4, _⟩ := hlo x hx
  exact ⟨rv, h3, h4⟩
theorem StoreLo.ext {z : Nat} {W W' : World} {s bm : Nat} {room : Int} {S : List Nd5} (h : StoreLo z W s bm room S) (k : Ext W W') : StoreLo z W' s bm room S := h.past k (fun _ f => f.elim)
/-- A count is set. -/
theorem StoreLo.set {z : Nat} {W : World} {s bm : Nat} {room : Int} {S : List Nd5} (h : StoreLo z W s bm room S) {y : Nd5} (hy : y ∈ S) {f : Nat} (hf : f = 2 ∨ f = 3) (v : Int) : StoreLo z (W.setCell ⟨y.2.1, f, none⟩ (.int .i64 v)) s bm room (S.map (setB f y.2.1 v)) := by
  have hi := h.st.mp.items y hy
  obtain ⟨rv, hb, _⟩ := hi.cells
  have hK : Keeps (fun z => z = y.2.1) W (W.setCell ⟨y.2.1, f, none⟩ (.int .i64 v)) := Keeps.oneSet W ⟨y.2.1, f, none⟩ _
  have hN : NoRow W (fun z => z = y.2.1) := fun z cur fz e hz => by
    have e : z = y.2.1 := e
    subst e
    have := hb.uniq hz; injection this with _ h2; exact absurd h2 (by decide)
  refine ⟨⟨h.st.st.keeps hK (fun e => ?_), h.st.mp.setF hi hf v⟩, h.s0, h.b0, fun x hx => ?_⟩
  · have e : s = y.2.1 := e
    rw [e] at h
    have := hb.uniq h.st.st; injection this with _ h2; exact absurd h2 (by decide)
  · obtain ⟨u, hu, rfl⟩ := List.mem_map.1 hx
    obtain ⟨l1, rv', l2, l3, l4⟩ := h.lo u hu
    unfold setB
    split
    · rename_i e
      refine ⟨l1, rv', ?_, ?_, l4⟩
      · show Blk _ u.2.1 _
        rw [e] at l2 ⊢
        rcases hf with rfl | rfl
        · exact l2.set_same (i := 2) _
        · exact l2.set_same (i := 3) _
      · have := row_keeps l3 hK hN
        rcases hf with rfl | rfl <;> exact this
    · rename_i e
      exact ⟨l1, rv', l2.keeps hK e, row_keeps l3 hK hN, l4⟩
/-- A node goes. -/
theorem StoreLo.del {z : Nat} {W : World} {s bm : Nat} {room : Int} {S : List Nd5} (h : StoreLo z W s bm room S) (k : ByteArray) :
    ∃ o, (∀ kt r, (Builtin.delete_ #[92, kt] r #[.map (some bm), .string k]).run Tryz.prog W = .ok (.tuple #[]) (W.putObj bm o)) ∧ StoreLo z (W.putObj bm o) s bm room (delL S k.data.toList) := by
  obtain ⟨ob, hdl, hM⟩ := h.st.mp.del k
  have hK : Keeps (fun z => z = bm) W (W.putObj bm ob) := Keeps.onePut W bm ob
  refine ⟨ob, hdl, ⟨h.st.st.keeps hK (fun e => ?_), hM⟩, h.s0, h.b0, fun x hx => ?_⟩
  · have e : s = bm := e
    obtain ⟨es, ck, h1, _⟩ := h.st.mp.mp
    subst e
    have := h1.uniq h.st.st; cases this
  · obtain ⟨l1, rv, l2, l3, l4⟩ := h.lo x (del_mem.1 hx).1
    refine ⟨l1, rv, l2.keeps hK (fun e => ?_), row_keeps l3 hK h.st.mp.notRow, l4⟩
    have e : x.2.1 = bm := e
    obtain ⟨es, ck, h1, _⟩ := h.st.mp.mp
    rw [e] at l2
    have := h1.uniq l2; cases this
theorem row_takeS {w : World} {B g n cap : Nat} {T : List ByteArray} {t : ByteArray} (h : w.ownsRow B 9 1 (.slice (some ⟨g, 0, none⟩) (n + 1) cap) (n + 1) ((T ++ [t]).map Value.string)) : w.ownsRow B 9 1 (.slice (some ⟨g, 0, none⟩) n cap) n (T.map Value.string) := by
  obtain ⟨h1, ⟨h2, _⟩ | ⟨g', cap', cur, h2, h3, h4, h5, h6, h7, h8⟩⟩ := h
  · cases h2
  · obtain ⟨ha, _, hc⟩ := Value.slice.inj h2
    have hg : g = g' := by have := Option.some.inj ha; exact congrArg Addr.block this
    subst hg hc
    have hl : T.length = n := by simp at h1; omega
    refine ⟨by simp [hl], .inr ⟨g, cap, cur, rfl, h3, h4, by omega, h6, h7, ?_⟩⟩
    have e : (T ++ [t]).map Value.string = T.map Value.string ++ [.string t] := by simp
    rw [e] at h8
    have := congrArg (List.take n) h8
    rw [List.take_take, Nat.min_eq_left (by omega), List.take_left' (by simp [hl])] at this
    rw [Nat.mul_one]
    exact this
/-- Those that are counted no more are among the loose ones. -/
def Loose (S : List Nd5) (T : List ByteArray) : Prop := ∀ x ∈ S, x.2.2.used + x.2.2.held ≤ 0 → ∃ r ∈ T, r.data.toList = x.1
/-- A part of a store: the same nodes, held as often. -/
def SubS (S0 S : List Nd5) : Prop := ∀ x ∈ S, ∃ y ∈ S0, x.1 = y.1 ∧ x.2.1 = y.2.1 ∧ x.2.2.text = y.2.2.text ∧ x.2.2.refs = y.2.2.refs ∧ x.2.2.held = y.2.2.held
structure DrO (z : Nat) (s bm : Nat) (room : Int) (S0 S : List Nd5) (T : List ByteArray) (w3 : World) (v : Value) (W : World) : Prop where
  st : StoreLo z W s bm room S
  cnt : Cnt S
  loose : Loose S T
  row : W.ownsRow 0 9 1 v T.length (T.map Value.string)
  new : ∀ b, v.ownBlock = some b → z ≤ b
  sub : SubS S0 S
  sum : heldS S = heldS S0
  len : S.length ≤ S0.length
  tl : T.length + 16 * S.length ≤ 1 + 16 * S0.length
  stay : ∀ x ∈ S0, 0 < x.2.2.held → x.1 ∈ S.map (·.1)
  kp : Keeps (fun b => b = bm ∨ b ∈ S0.map (·.2.1) ∨ z ≤ b) w3 W
  rk : RK w3 W
def mapSz (W : World) (bm : Nat) : Nat := match W.heap[bm]? with | some (.map es _) => es.size | _ => 0
theorem StoreAt.mapSz {W : World} {s bm : Nat} {room : Int} {S : List Nd5} (h : StoreAt W s bm room S) : mapSz W bm = S.length := by
  obtain ⟨es, ck, h1, h2⟩ := h.mp.mp
  have := h2.lenL
  unfold Go.Proofs.YtjogjmffkmfmbaaGreatDoor.mapSz
  rw [show W.heap[bm]? = _ from h1]
  simp [KeyEnc.arr, this]
theorem loose_pop {S : List Nd5} {T : List ByteArray} {t : ByteArray} (h : Loose S (T ++ [t])) (ht : ∀ x ∈ S, x.1 = t.data.toList → 0 < x.2.2.used + x.2.2.held) : Loose S T := fun x hx h0 => by
  obtain ⟨r, hr, e⟩ := h x hx h0
  rcases List.mem_append.1 hr with hr | hr
  · exact ⟨r, hr, e⟩
  · have := ht x hx (by rw [← e, List.mem_singleton.1 hr]); omega
theorem loose_del {S : List Nd5} {T : List ByteArray} {t : ByteArray} (h : Loose S (T ++ [t])) {R : List ByteArray} {k : Key} (hk : k = t.data.toList) : Loose (delL (S.map (lessU R)) k) (T ++ R) := fun x hx h0 => by
  rw [del_less] at hx
  obtain ⟨z, hz, rfl⟩ := List.mem_map.1 hx
  have hz := del_mem.1 hz
  have h0 : z.2.2.used - (cK R z.1 : Int) + z.2.2.held ≤ 0 := h0
  by_cases hc : 0 < cK R z.1
  · obtain ⟨r, hr, e⟩ := cK_has hc
    exact ⟨r, List.mem_append_right _ hr, e⟩
  · obtain ⟨r, hr, e⟩ := h z hz.1 (by omega)
    rcases List.mem_append.1 hr with hr | hr
    · exact ⟨r, List.mem_append_left _ hr, e⟩
    · exact absurd (e.symm.trans (by rw [List.mem_singleton.1 hr, hk])) hz.2
theorem sub_del {S0 S : List Nd5} (h : SubS S0 S) (R : List ByteArray) (k : Key) : SubS S0 (delL (S.map (lessU R)) k) := fun x hx => by
  rw [del_less] at hx
  obtain ⟨z, hz, rfl⟩ := List.mem_map.1 hx
  exact h z (del_mem.1 hz).1
theorem del_len {S : List Nd5} {y : Nd5} (hy : y ∈ S) (R : List ByteArray) : (delL (S.map (lessU R)) y.1).length + 1 ≤ S.length := by
  rw [del_less, List.length_map]
  unfold delL
  have := List.length_filter_lt_length_iff_exists (l := S) (p := fun x => !decide (y.1 = x.1))
  have := this.2 ⟨y, hy, by simp⟩
  omega
theorem stay_del {S0 S : List Nd5} (hn : (S0.map (·.1)).Nodup) (hs : SubS S0 S) (h : ∀ x ∈ S0, 0 < x.2.2.held → x.1 ∈ S.map (·.1)) {y : Nd5} (hy : y ∈ S) (h0 : y.2.2.held = 0) (R : List ByteArray) : ∀ x ∈ S0, 0 < x.2.2.held → x.1 ∈ (delL (S.map (lessU R)) y.1).map (·.1) := fun x hx h1 => by
  obtain ⟨z, hz, e⟩ := List.mem_map.1 (h x hx h1)
  rw [del_less, lessU_keys]
  refine List.mem_map.2 ⟨z, del_mem.2 ⟨hz, fun e2 => ?_⟩, e⟩
  obtain ⟨y0, hy0, k1, _, _, _, k5⟩ := hs y hy
  have : x = y0 := nodup_map_inj hn hx hy0 (by rw [← e, e2, k1])
  subst this
  omega
end
end Go.Proofs.YtjogjmffkmfmbaaGreatDoor
/- store: Drop of any root. -/
namespace Go.Proofs.YtjogjmffkmfmbaaGreatDoor
section
open Go Go.RowKit
set_option linter.unusedSimpArgs false
set_option linter.unusedVariables false
attribute [local go_sem] Oper.semAt_some
/-- Each is counted. -/
def FullS (S : List Nd5) : Prop := ∀ x ∈ S, 0 < x.2.2.used + x.2.2.held
structure DropY (w : World) (s bm : Nat) (room : Int) (S S' : List Nd5) (y : Nd5) (w' : World) : Prop where
  st : StoreAt w' s bm room S'
  cnt : Cnt S'
  full : FullS S'
  sum : heldS S' = heldS S - 1
  len : S'.length ≤ S.length
  sub : SubS (S.map (setB 3 y.2.1 (y.2.2.held - 1))) S'
  stay : ∀ x ∈ S.map (setB 3 y.2.1 (y.2.2.held - 1)), 0 < x.2.2.held → x.1 ∈ S'.map (·.1)
  kp : Keeps (fun b => b = bm ∨ b ∈ S.map (·.2.1)) w w'
  rk : RK w w'
def DropP (w : World) (s bm : Nat) (room : Int) (S : List Nd5) (k : ByteArray) (e : Ending) (w' : World) : Prop :=
  (heldO (atL S k.data.toList) = 0 ∧ e = .returned (.int .i64 4) ∧ Ext w w') ∨ ∃ S' y, atL S k.data.toList = some y ∧ 0 < y.2.2.held ∧ e = .returned (.int .i64 0) ∧ DropY w s bm room S S' y w'
theorem drop_zero (w : World) (s bm : Nat) (room : Int) (S : List Nd5) (h : StoreAt w s bm room S) (k : ByteArray) (hy : heldO (atL S k.data.toList) = 0) :
    Calls Tryz.prog 39 #[.pointer (some ⟨s, 0, none⟩), .string k] w fun e w' => e = .returned (.int .i64 4) ∧ Ext w w' := by
  have hc := sheld_c w s bm room S k h
  rw [hy] at hc
  have HC := Lib.hid (show Calls Tryz.prog 45 #[.pointer (some ⟨s, 0, none⟩), .string k] w fun e w' => e = .returned (.int .i64 0) ∧ Ext w w' from hc)
  clear hc h hy
  go_enter Tryz.func39, Tryz.ntmps39
  go_wp2_with fail
  refine HC.out.mono ?_
  rintro e w1 ⟨rfl, hE⟩
  have HE := Lib.hid hE
  clear hE
  go_wp2_with fail
  go_ret
  exact ⟨rfl, HE.out⟩
def DrRelO (z s bm : Nat) (room : Int) (S0 : List Nd5) (w3 : World) (v : Value) (W : World) : Prop := ∃ S T, DrO z s bm room S0 S T w3 v W
structure DrI (z s bm : Nat) (room : Int) (S0 S : List Nd5) (T R : List ByteArray) (rv : Value) (w3 : World) (j : Nat) (v : Value) (W : World) : Prop where
  st : StoreLo z W s bm room (S.map (lessU (R.take j)))
  row : W.ownsRow 0 9 1 v (T.length + j) ((T ++ R.take j).map Value.string)
  new : ∀ b, v.ownBlock = some b → z ≤ b
  refs : W.ownsRow 0 9 1 rv R.length (R.map Value.string)
  kp : Keeps (fun b => b = bm ∨ b ∈ S0.map (·.2.1) ∨ z ≤ b) w3 W
  rk : RK w3 W
def DrRelI (z s bm : Nat) (room : Int) (S0 S : List Nd5) (T R : List ByteArray) (rv : Value) (w3 : World) (v iv : Value) (W : World) : Prop := ∃ j : Nat, j ≤ R.length ∧ iv = .int .i64 j ∧ DrI z s bm room S0 S T R rv w3 j v W
theorem keepsM {F G : BSet} {a b c : World} (h : Keeps F a b) (k : Keeps G b c) (hG : ∀ x, G x → F x) : Keeps F a c := h.trans (k.mono fun x _ g => hG x g)
theorem cntO_le {S : List Nd5} (h : Cnt S) {k : Key} (h0 : ¬ 0 < countO (atL S k)) : atL S k = none ∨ ∃ y, atL S k = some y ∧ y.2.2.used = 0 ∧ y.2.2.held = 0 := by
  cases hy : atL S k with
  | none => exact .inl rfl
  | some y =>
    right
    rw [hy] at h0
    have h1 := h.held y (atL_mem hy).1
    have h2 := h.used y (atL_mem hy).1
    have h0 : ¬ 0 < y.2.2.used + y.2.2.held := h0
    exact ⟨y, rfl, by omega, by omega⟩
theorem lessU_bd {S : List Nd5} (h : Cnt S) (hl : S.length ≤ 1000) {R : List ByteArray} (hR : R.length ≤ 16) (j : Nat) : ∀ x ∈ S.map (lessU (R.take j)), -16 ≤ x.2.2.used ∧ x.2.2.used ≤ 16000 := fun x hx => by
  obtain ⟨z, hz, rfl⟩ := List.mem_map.1 hx
  have h1 := h.bd hl z hz
  have h2 := cK_le (R.take j) z.1
  rw [List.length_take] at h2
  show -16 ≤ z.2.2.used - (cK (R.take j) z.1 : Int) ∧ z.2.2.used - (cK (R.take j) z.1 : Int) ≤ 16000
  omega
theorem row_top {w : World} {B g n cap : Nat} {T : List ByteArray} {t : ByteArray} (h : w.ownsRow B 9 1 (.slice (some ⟨g, 0, none⟩) (n + 1) cap) (n + 1) ((T ++ [t]).map Value.string)) : w.cell? ⟨g, n, none⟩ = some (.string t) := by
  have hl : T.length = n := by have := h.1; simp at this; omega
  have := World.ownsRow.cells (g := g) h (by rfl) n (.string t) (by rw [List.map_append, List.getElem?_append_right (by simp [hl]), List.length_map, hl, Nat.sub_self]; rfl)
  rw [Addr.add_lit, Nat.zero_add] at this
  exact this
theorem row_ne {w : World} {B : Nat} {v : Value} {n : Nat} {xs : List Value} (h : w.ownsRow B 9 1 v (n + 1) xs) : ∃ g cap, v = .slice (some ⟨g, 0, none⟩) (n + 1) cap := by
  obtain ⟨_, ⟨_, h2⟩ | ⟨g', cap', cur, h2, _⟩⟩ := h
  · omega
  · exact ⟨g', cap', h2⟩
theorem row_cap {w : World} {B n m : Nat} {a : Option Addr} {cap : Nat} {xs : List Value} (h : w.ownsRow B 9 1 (.slice a (n + 1) cap) (n + 1) xs) (hm : m = n) : m + 1 ≤ cap := by
  subst hm
  obtain ⟨_, ⟨_, h2⟩ | ⟨g', cap', cur, h2, _, _, h5, _⟩⟩ := h
  · omega
  · obtain ⟨_, _, e⟩ := Value.slice.inj h2; omega
theorem at_some {S : List Nd5} (hn : (S.map (·.1)).Nodup) {x : Nd5} {k : Key} (hx : x ∈ S) (e : x.1 = k) : atL S k = some x := by
  obtain ⟨y, hy⟩ := Option.isSome_iff_exists.1 (has_iff.2 (List.mem_map.2 ⟨x, hx, e⟩))
  rw [hy, at_uniq hn hx e hy]
set_option maxRecDepth 100000 in
set_option maxHeartbeats 16000000 in
theorem drop_some (w : World) (s bm : Nat) (room : Int) (S : List Nd5) (h : StoreAt w s bm room S) (hcn : Cnt S) (hfl : FullS S) (hl : S.length ≤ 1000) (hh : ∀ x ∈ S, x.2.2.held ≤ 1000000) (k : ByteArray) (y : Nd5) (hy : atL S k.data.toList = some y) (h1 : 0 < y.2.2.held) :
    Calls Tryz.prog 39 #[.pointer (some ⟨s, 0, none⟩), .string k] w (DropP w s bm room S k) := by
  have HS := Lib.hid h
  have HCN := Lib.hid hcn
  have HFL := Lib.hid hfl
  have HY := Lib.hid hy
  have HH := Lib.hid hh
  have hym := (atL_mem hy).1
  have hbd := hcn.bd hl y hym
  have hhd2 := hh y hym
  have hc := sheld_c w s bm room S k h
  rw [hy] at hc
  obtain ⟨yb, hyb⟩ : ∃ yb, yb = y.2.1 := ⟨_, rfl⟩
  obtain ⟨hd, hhd⟩ : ∃ hd, hd = y.2.2.held := ⟨_, rfl⟩
  have hho : heldO (some y) = hd := hhd.symm
  rw [hho] at hc
  rw [← hhd] at h1 hhd2
  have HYB := Lib.hid hyb
  have HHD := Lib.hid hhd
  have HC := Lib.hid hc
  have H1 := Lib.hid h1
  have hnz : (hd == 0) = false := by simp; omega
  clear h hcn hfl hh hy hym hc hyb hhd hho
  go_enter Tryz.func39, Tryz.ntmps39
  go_wp2_with fail
  refine HC.out.mono ?_
  rintro e w1 ⟨rfl, hE⟩
  have h := HS.out.ext hE
  have hyb := HYB.out
  have hhd := HHD.out
  have hy := HY.out
  have hym := (atL_mem hy).1
  have hlo := h.low.set hym (.inr rfl) (hd - 1)
  rw [← hyb] at hlo
  obtain ⟨z, hz⟩ : ∃ z, z = w1.heap.size := ⟨_, rfl⟩
  rw [← hz] at hlo
  have HZ := Lib.hid hz
  have hK : Keeps (fun z => z = yb) w1 (w1.setCell ⟨yb, 3, none⟩ (.int .i64 (hd - 1))) := Keeps.oneSet w1 ⟨yb, 3, none⟩ _
  have hlk := h.mp.look k false
  rw [hy] at hlk
  unfold ptrO at hlk
  simp only [Bool.false_eq_true, if_false] at hlk
  rw [← hyb] at hlk
  obtain ⟨S0, hS0⟩ : ∃ S0, S0 = S.map (setB 3 yb (hd - 1)) := ⟨_, rfl⟩
  rw [← hS0] at hlo
  have HS0 := Lib.hid hS0
  obtain ⟨rv, hBk, _⟩ := (h.mp.items y hym).cells
  rw [← hyb, ← hhd] at hBk
  have qs := h.st.cell (i := 1) (v := .map (some bm)) (by rfl)
  have qh := hBk.cell (i := 3) (v := .int .i64 hd) (by rfl)
  have fh : w1.frozen? ⟨yb, 3, none⟩ = false := hBk.frozen
  have hc0 : Cnt S0 := by rw [hS0]; exact cnt_set HCN.out yb (by omega)
  have hl0 : S0.length = S.length := by rw [hS0, List.length_map]
  have hsum : heldS S0 = heldS S - 1 := by rw [hS0, hyb, heldS_set h.nd h.mp.blks hym]; omega
  have hnd0 : (S0.map (·.1)).Nodup := by rw [hS0, setB3_keys]; exact h.nd
  have hls0 : Loose S0 [k] := by
    rw [hS0]
    intro x hx h0
    obtain ⟨u, hu, rfl⟩ := List.mem_map.1 hx
    refine ⟨k, by simp, ?_⟩
    by_cases e : u.2.1 = yb
    · have : u = y := nodup_map_inj h.mp.blks hu hym (by rw [e, hyb])
      rw [(setB3_used yb (hd - 1) u).2.2.1, this, (atL_mem hy).2]
    · unfold setB at h0
      rw [if_neg e] at h0
      have := HFL.out u hu; omega
  have HLO := Lib.hid hlo
  have HC0 := Lib.hid hc0
  have HSUM := Lib.hid hsum
  have HND0 := Lib.hid hnd0
  have HLS := Lib.hid hls0
  have HL0 := Lib.hid hl0
  have HB0 := Lib.hid (show S0.map (·.2.1) = S.map (·.2.1) by rw [hS0, setB_blk])
  have HK := Lib.hid (And.intro hE hK)
  have HYM := Lib.hid (show yb ∈ S.map (·.2.1) by rw [hyb]; exact List.mem_map.2 ⟨y, hym, rfl⟩)
  have hw1 : -9223372036854775808 ≤ hd - 1 := by omega
  have hw2 : hd - 1 ≤ 9223372036854775807 := by omega
  clear h hy hym hyb hhd hlo hK hS0 hBk HS hc0 hl0 hsum hnd0 hls0 HC hE HFL
  obtain ⟨w2, hw2'⟩ : ∃ w2, w2 = w1.setCell ⟨yb, 3, none⟩ (.int .i64 (hd - 1)) := ⟨_, rfl⟩
  rw [← hw2'] at HLO HK
  have HSZ := Lib.hid (show w2.heap.size = z by rw [hw2', hz]; simp)
  have HRK2 := Lib.hid (show RK w1 w2 by rw [hw2']; exact (RK.refl w1).set yb (.inr rfl) _)
  go_wp2_with fail
  rw [← hw2', ← hz]
  clear hw2' qs qh fh hlk hz
  obtain ⟨w3, hw3⟩ : ∃ w3, w3 = w2.alloc (.cells #[.string k] 9) := ⟨_, rfl⟩
  rw [← hw3]
  have hr3 : ORow 9 1 w2 w3 (.slice (some ⟨w2.heap.size, 0, none⟩) 1 1) 1 [.string k] := by rw [hw3]; exact ORow.lit #[.string k] (ExtR w2) (by decide) rfl
  have HR3 := Lib.hid (show w3.ownsRow 0 9 1 (.slice (some ⟨z, 0, none⟩) 1 1) 1 [.string k] by have h := hr3.own; rw [HSZ.out] at h; exact h)
  have HE3 := Lib.hid (show Ext w2 w3 by rw [hw3]; exact (ExtR w2).alloc _)
  clear hw3 hr3
  go_loopw [5] (fun v wr => DrRelO z s bm room S0 w1 v wr) (fun v wr => 17 * mapSz wr bm + slN v)
  case atStart =>
    refine ⟨S0, [k], HLO.out.ext HE3.out, HC0.out, HLS.out, HR3.out, fun b hb => ?_, fun x hx => ⟨x, hx, rfl, rfl, rfl, rfl, rfl⟩, rfl, Nat.le_refl _, Nat.le_refl _, fun x hx _ => List.mem_map.2 ⟨x, hx, rfl⟩, keepsM (F := fun b => b = bm ∨ b ∈ S0.map (·.2.1) ∨ z ≤ b) (HK.out.2.mono fun x _ e => .inr (.inl (by rw [show x = yb from e, HB0.out]; exact HYM.out))) HE3.out (fun x e => e.elim), HRK2.out.ext HE3.out⟩
    have e : some z = some b := hb
    have := Option.some.inj e; omega
  case round =>
    obtain ⟨S1, T, hD⟩ := hrel
    have HD := Lib.hid hD
    rcases List.eq_nil_or_concat T with hT | ⟨T', t, hT⟩
    · subst hT
      obtain ⟨a, c, rfl⟩ := row_slice hD.row
      clear hD
      go_wp2_with fail
      go_ret
      refine .inr ⟨S1, y, HY.out, by rw [← HHD.out]; exact H1.out, rfl, HD.out.st.st, HD.out.cnt, fun x hx => ?_, ?_, ?_, ?_, ?_, ?_, ?_⟩
      · by_cases h0 : x.2.2.used + x.2.2.held ≤ 0
        · obtain ⟨r, hr, _⟩ := HD.out.loose x hx h0
          cases hr
        · omega
      · rw [HD.out.sum, HSUM.out]
      · have := HD.out.len; rw [HL0.out] at this; exact this
      · rw [← HYB.out, ← HHD.out, ← HS0.out]; exact HD.out.sub
      · rw [← HYB.out, ← HHD.out, ← HS0.out]; exact HD.out.stay
      · have hz := HZ.out
        refine Keeps.trans' (F := fun b => b = bm ∨ b ∈ S.map (·.2.1)) (HK.out.1.mono fun _ _ g => g.elim) HD.out.kp (fun x hx e => ?_)
        rcases e with e | e | e
        · exact .inl e
        · rw [HB0.out] at e; exact .inr e
        · have := HK.out.1.size; omega
      · exact ((RK.refl w).ext HK.out.1).trans HD.out.rk
    · have hT : T = T' ++ [t] := by rw [hT]; simp
      subst hT
      have hrow := hD.row
      rw [show (T' ++ [t]).length = T'.length + 1 by simp] at hrow
      obtain ⟨g, cp, rfl⟩ := row_ne hrow
      have q1 := row_top hrow
      have HROW := Lib.hid (row_takeS hrow)
      obtain ⟨n, hn⟩ : ∃ n, n = T'.length := ⟨_, rfl⟩
      rw [← hn] at HROW q1 ⊢
      have HNN := Lib.hid hn
      have hl1 := hD.len
      have HL1 := Lib.hid (show S1.length ≤ 1000 by have := HL0.out; omega)
      have hm := hD.st.st.mapSz
      have HMS := Lib.hid hm
      have HGZ := Lib.hid (show z ≤ g from hD.new g rfl)
      have hcap : n + 1 ≤ cp := row_cap hrow hn
      have HB := Lib.hid (show ∀ x ∈ S1, -1000000000 ≤ x.2.2.used ∧ x.2.2.used ≤ 1000000000 ∧ -1000000000 ≤ x.2.2.held ∧ x.2.2.held ≤ 1000000000 from fun x hx => by
        have := hD.cnt.bd HL1.out x hx
        have := hD.cnt.held x hx
        obtain ⟨u, hu, _, _, _, _, e5⟩ := hD.sub x hx
        have h5 : u.2.2.held ≤ 1000000 := by
          rw [HS0.out] at hu
          obtain ⟨v, hv, rfl⟩ := List.mem_map.1 hu
          have := HH.out v hv
          unfold setB putF
          split
          · show hd - 1 ≤ 1000000; omega
          · exact this
        omega)
      have HTL := Lib.hid (show n + 1 + 16 * S1.length ≤ 1 + 16 * S0.length by have h := hD.tl; rw [List.length_append, ← hn] at h; exact h)
      have hn63 : n ≤ 20000 := by have := HTL.out; have := HL0.out; omega
      clear hD hrow hn hl1 hm
      go_wp2_with fail
      refine (scount_c wr s bm room S1 t HD.out.st.st HB.out).mono ?_
      rintro e w5 ⟨rfl, hE⟩
      obtain ⟨cn, hcn⟩ : ∃ cn, cn = countO (atL S1 t.data.toList) := ⟨_, rfl⟩
      rw [← hcn]
      have HCN1 := Lib.hid hcn
      have hst5 := HD.out.st.ext hE
      have HST5 := Lib.hid hst5
      have HROW5 := Lib.hid (own_ext HROW.out hE)
      have HK5 := Lib.hid (HD.out.kp.trans (hE.mono (fun _ _ g => g.elim)))
      have HRK5 := Lib.hid (HD.out.rk.ext hE)
      have qs := hst5.st.st.cell (i := 1) (v := .map (some bm)) (by rfl)
      have hlk := hst5.st.mp.look t false
      simp only [Bool.false_eq_true, if_false] at hlk
      have HMS5 := Lib.hid hst5.st.mapSz
      have HNEW := Lib.hid (show ∀ b c m, (Value.slice (some ⟨g, 0, none⟩) m c).ownBlock = some b → z ≤ b from fun b c m hb => by
        have e : some g = some b := hb
        have := Option.some.inj e; have := HGZ.out; omega)
      clear hE hcn hst5 q1
      by_cases hp : 0 < cn
      · go_wp2_with fail
        go_roundw
        case rel =>
          refine ⟨S1, T', HST5.out, HD.out.cnt, loose_pop HD.out.loose (fun x hx e => ?_), by rw [← HNN.out]; exact HROW5.out, fun b hb => HNEW.out b _ _ hb, HD.out.sub, HD.out.sum, HD.out.len, by have := HTL.out; have := HNN.out; omega, HD.out.stay, HK5.out, HRK5.out⟩
          have h1 := HCN1.out
          rw [show atL S1 t.data.toList = some x from at_some HD.out.st.st.nd hx e] at h1
          have h1 : cn = x.2.2.used + x.2.2.held := h1
          omega
        case measure => rw [HMS5.out, HMS.out]; simp [slN]
      have hp0 : ¬ 0 < countO (atL S1 t.data.toList) := by rw [← HCN1.out]; exact hp
      rcases cntO_le HD.out.cnt hp0 with hno | ⟨y1, hy1, hu0, hh0⟩
      · rw [hno] at hlk
        unfold ptrO at hlk
        simp only at hlk
        have HNO := Lib.hid hno
        clear hp0 hno
        go_wp2_with fail
        go_roundw
        case rel =>
          exact ⟨S1, T', HST5.out, HD.out.cnt, loose_pop HD.out.loose (fun x hx e => absurd e.symm (atL_none.1 HNO.out x hx)), by rw [← HNN.out]; exact HROW5.out, fun b hb => HNEW.out b _ _ hb, HD.out.sub, HD.out.sum, HD.out.len, by have := HTL.out; have := HNN.out; omega, HD.out.stay, HK5.out, HRK5.out⟩
        case measure => rw [HMS5.out, HMS.out]; simp [slN]
      · rw [hy1] at hlk
        unfold ptrO at hlk
        simp only at hlk
        have hy1m := (atL_mem hy1).1
        obtain ⟨_, rv, hb1, hr1, hrz⟩ := HST5.out.lo y1 hy1m
        obtain ⟨R, hR⟩ : ∃ R, R = y1.2.2.refs := ⟨_, rfl⟩
        rw [← hR] at hr1
        obtain ⟨ar, cr, rfl⟩ := row_slice hr1
        have qr := hb1.cell (i := 1) (v := .slice ar R.length cr) (by rfl)
        have HR16 := Lib.hid (show R.length ≤ 16 by rw [hR]; exact HD.out.cnt.r16 y1 hy1m)
        have HRS := Lib.hid (show ∀ r ∈ R, r.data.toList ∈ S1.map (·.1) from fun r hr => HD.out.cnt.shut r (List.mem_flatMap.2 ⟨y1, hy1m, by rw [← hR]; exact hr⟩))
        have HI0 := Lib.hid (show DrI z s bm room S0 S1 T' R (.slice ar R.length cr) w1 0 (.slice (some ⟨g, 0, none⟩) n cp) w5 from ⟨by rw [List.take_zero, lessU_nil]; exact HST5.out, by rw [List.take_zero, List.append_nil, Nat.add_zero, ← HNN.out]; exact HROW5.out, fun b hb => HNEW.out b _ _ hb, hr1, HK5.out, HRK5.out⟩)
        have HY1 := Lib.hid hy1
        have HRR := Lib.hid hR
        have HRZ := Lib.hid hrz
        have HKN := Lib.hid (And.intro hy1m (atL_mem hy1).2)
        have HU0 := Lib.hid (And.intro hu0 hh0)
        obtain ⟨y1b, hy1b⟩ : ∃ y1b, y1b = y1.2.1 := ⟨_, rfl⟩
        rw [← hy1b] at hlk qr
        clear hp0 hy1 hu0 hh0 hy1m hb1 hr1 hrz hR hy1b
        go_wp2_with fail
        go_loopw [5, 65] (fun v5 iv wr2 => DrRelI z s bm room S0 S1 T' R (.slice ar R.length cr) w1 v5 iv wr2) (fun _ iv _ => R.length - (intOf iv).toNat)
        case atStart => exact ⟨0, Nat.zero_le _, rfl, HI0.out⟩
        case round =>
          obtain ⟨j, hj, rfl, hI⟩ := hrel
          have HI := Lib.hid hI
          obtain ⟨a5, c5, rfl⟩ := row_slice hI.row
          by_cases hlt : j < R.length
          · have b1 : (j : Int) < (R.length : Int) := by omega
            obtain ⟨r, hr⟩ : ∃ r, R[j]? = some r := ⟨_, List.getElem?_eq_getElem hlt⟩
            obtain ⟨ax, cx, hhs, hcell⟩ := (own_rd hI.refs).slice
            obtain ⟨ba, oa, hao, hqa⟩ := hcell j r hr
            subst hao
            cases hhs
            have qs2 := hI.st.st.st.cell (i := 1) (v := .map (some bm)) (by rfl)
            have hlk2 := hI.st.st.mp.look r false
            simp only [Bool.false_eq_true, if_false] at hlk2
            obtain ⟨x1, hx1⟩ := Option.isSome_iff_exists.1 (has_iff.2 (show r.data.toList ∈ (S1.map (lessU (R.take j))).map (·.1) by rw [lessU_keys]; exact HRS.out r (List.mem_of_getElem? hr)))
            rw [hx1] at hlk2
            unfold ptrO at hlk2
            simp only at hlk2
            have hx1m := (atL_mem hx1).1
            have hub := lessU_bd HD.out.cnt HL1.out HR16.out j x1 hx1m
            obtain ⟨rx, hbx, _⟩ := (hI.st.st.mp.items x1 hx1m).cells
            have hsx := hI.st.set hx1m (.inl rfl) (x1.2.2.used - 1)
            rw [setB_dec hI.st.st.mp hx1, ← lessU_snoc] at hsx
            have hKx : Keeps (fun z => z = x1.2.1) wr (wr.setCell ⟨x1.2.1, 2, none⟩ (.int .i64 (x1.2.2.used - 1))) := Keeps.oneSet wr ⟨x1.2.1, 2, none⟩ _
            have hNx : NoRow wr (fun z => z = x1.2.1) := fun z cur fz e hz => by
              have e : z = x1.2.1 := e
              subst e
              have := hbx.uniq hz; injection this with _ h2; exact absurd h2 (by decide)
            have HOW := Lib.hid (row_keeps hI.row hKx hNx)
            have HRF := Lib.hid (row_keeps hI.refs hKx hNx)
            have HXB := Lib.hid (show x1.2.1 ∈ S0.map (·.2.1) from by
              obtain ⟨u, hu, e⟩ := List.mem_map.1 hx1m
              obtain ⟨u0, hu0, _, e2, _⟩ := HD.out.sub u hu
              exact List.mem_map.2 ⟨u0, hu0, by rw [← e]; exact e2.symm⟩)
            have qx := hbx.cell (i := 2) (v := .int .i64 x1.2.2.used) (by rfl)
            have fx : wr.frozen? ⟨x1.2.1, 2, none⟩ = false := hbx.frozen
            obtain ⟨u, hu⟩ : ∃ u, u = x1.2.2.used := ⟨_, rfl⟩
            obtain ⟨xb, hxb⟩ : ∃ xb, xb = x1.2.1 := ⟨_, rfl⟩
            rw [← hu] at hub hsx qx HOW HRF hKx
            rw [← hxb] at hlk2 qx fx hsx HOW HRF hKx HXB
            have HKX := Lib.hid hKx
            have HSX := Lib.hid (show StoreLo z (wr.setCell ⟨xb, 2, none⟩ (.int .i64 (u - 1))) s bm room (S1.map (lessU (R.take (j + 1)))) by rw [List.take_add_one, hr]; exact hsx)
            have HTK := Lib.hid (show T' ++ R.take (j + 1) = (T' ++ R.take j) ++ [r] by rw [List.take_add_one, hr, ← List.append_assoc]; rfl)
            have hnw := news_blk (Blk.new (wr.setCell ⟨xb, 2, none⟩ (.int .i64 (u - 1))) (.cells #[.string r] 9))
            rw [World.size_setCell] at hnw
            have HNW := Lib.hid hnw
            have hw1 : -9223372036854775808 ≤ u - 1 := by omega
            have hw2 : u - 1 ≤ 9223372036854775807 := by omega
            have hm1 : T'.length + j + 1 ≤ maxLen := by have := HTL.out; have := HNN.out; have := HR16.out; unfold maxLen; omega
            have hm2 : (T'.length + j + 1) * 16 ≤ 140737488355328 := by have := HTL.out; have := HNN.out; have := HR16.out; omega
            clear hI hr hcell hx1 hx1m hbx hsx hKx hNx hu hxb hnw hlk qr qs
            obtain ⟨i0, hi, hz0, hz1, hz2⟩ := info_parts Tryz.infoStr
            go_wp2_with (at_builtin; refine wpList_append_any _ rfl (.tmp 84) (.tmp 86) 22 rfl 9 i0 _ 1 16 Tryz.uStrs hi hz0 hz1 hz2 rfl (by decide) (.slice a5 (T'.length + j) c5) (T'.length + j) _ rfl (own_ext HOW.out ((ExtR _).alloc _)) ⟨wr.heap.size, 0, none⟩ 1 1 [.string r] rfl rfl HNW.out (by simp [Value.oneCell']) hm1 hm2 ?_; intro v' w6 r1 r2 r3; have HR1 := Lib.hid r1; have HR2 := Lib.hid r2; have HR3 := Lib.hid r3; obtain ⟨a6, c6, rfl⟩ := row_slice r1; clear r1 r2 r3)
            go_roundw
            case rel =>
              have hzw : z ≤ wr.heap.size := by have := HI.out.kp.size; have := HZ.out; omega
              have e3 := (ExtR (wr.setCell ⟨xb, 2, none⟩ (.int .i64 (u - 1)))).alloc (.cells #[.string r] 9)
              refine ⟨j + 1, by omega, by go_num, (HSX.out.ext e3).past HR2.out (fun c hc => HI.out.new c hc), ?_, fun b hb => ?_, own_keeps (own_ext HRF.out e3) HR2.out (fun c hc f => by have := HRZ.out c hc; have := HI.out.new c f; omega), ?_, ((HI.out.rk.set xb (.inl rfl) _).ext e3).keeps HR2.out (fun c hc => by have := HI.out.new c hc; have := HZ.out; omega)⟩
              · have h := HR1.out
                rw [HTK.out, List.map_append]; exact h
              · rcases HR3.out with h | h
                · exact HI.out.new b (h ▸ hb)
                · have := h b hb
                  rw [World.size_alloc, World.size_setCell] at this; omega
              · refine keepsM (keepsM (keepsM HI.out.kp HKX.out (fun x e => .inr (.inl ?_))) e3 (fun x e => e.elim)) HR2.out (fun x e => .inr (.inr (HI.out.new x e)))
                rw [show x = xb from e]; exact HXB.out
            case measure => simp [intOf]; omega
          · have hje : j = R.length := by omega
            subst hje
            have hst := hI.st
            rw [List.take_length] at hst
            have hrow9 := hI.row
            rw [List.take_length] at hrow9
            obtain ⟨ob, hdl, hSd⟩ := hst.del t
            have qs2 := hst.st.st.cell (i := 1) (v := .map (some bm)) (by rfl)
            have hKd : Keeps (fun z => z = bm) wr (wr.putObj bm ob) := Keeps.onePut wr bm ob
            have HSD := Lib.hid hSd
            have HR9 := Lib.hid (own_keeps hrow9 hKd (fun b hb e => by have := hI.new b hb; have := hst.b0; have e : b = bm := e; omega))
            have HN9 := Lib.hid hI.new
            have HK9 := Lib.hid (keepsM hI.kp hKd (fun x e => .inl e))
            obtain ⟨oes, ock, hobm, _⟩ := hSd.st.mp.mp
            have HRK9 := Lib.hid (hI.rk.put hKd hobm)
            clear hobm
            clear hst hrow9 hSd hKd hI HI hlk qr qs
            go_wp2_with fail
            go_roundw
            case rel =>
              have hym := HKN.out.1
              have hk := HKN.out.2
              have hdn := del_len hym R
              rw [hk] at hdn
              have hln := HD.out.len
              have htl := HTL.out
              have hnn := HNN.out
              have hr16 := HR16.out
              refine ⟨delL (S1.map (lessU R)) t.data.toList, T' ++ R, HSD.out, ?_, loose_del HD.out.loose rfl, by rw [List.length_append]; exact HR9.out, HN9.out, sub_del HD.out.sub R _, ?_, by omega, by rw [List.length_append]; omega, ?_, HK9.out, HRK9.out⟩
              · have := cnt_del HD.out.st.st.nd HD.out.cnt hym HU0.out.1
                rw [hk, ← HRR.out] at this; exact this
              · rw [del_less, heldS_less, ← HD.out.sum, heldS_del HD.out.st.st.nd hym, hk, HU0.out.2]; omega
              · have := stay_del HND0.out HD.out.sub HD.out.stay hym HU0.out.2 R
                rw [hk] at this; exact this
            case measure =>
              have hdn := del_len HKN.out.1 R
              rw [HKN.out.2] at hdn
              have hr16 := HR16.out
              have hnn := HNN.out
              rw [HSD.out.st.mapSz, HMS.out]
              simp only [slN]
              omega
theorem drop_any (w : World) (s bm : Nat) (room : Int) (S : List Nd5) (h : StoreAt w s bm room S) (hcn : Cnt S) (hfl : FullS S) (hl : S.length ≤ 1000) (hh : ∀ x ∈ S, x.2.2.held ≤ 1000000) (k : ByteArray) :
    Calls Tryz.prog 39 #[.pointer (some ⟨s, 0, none⟩), .string k] w (DropP w s bm room S k) := by
  by_cases h0 : heldO (atL S k.data.toList) = 0
  · exact (drop_zero w s bm room S h k h0).mono fun e w' ⟨h1, h2⟩ => .inl ⟨h0, h1, h2⟩
  · cases hy : atL S k.data.toList with
    | none => rw [hy] at h0; exact absurd rfl h0
    | some y =>
      rw [hy] at h0
      have h0 : ¬ y.2.2.held = 0 := h0
      have := hcn.held y (atL_mem hy).1
      exact drop_some w s bm room S h hcn hfl hl hh k y hy (by omega)
end
end Go.Proofs.YtjogjmffkmfmbaaGreatDoor
/- store: Hashes. -/
namespace Go.Proofs.YtjogjmffkmfmbaaGreatDoor
section
open Go Go.RowKit
set_option linter.unusedSimpArgs false
set_option linter.unusedVariables false
attribute [local go_sem] Oper.semAt_some
set_option maxRecDepth 100000 in
set_option maxHeartbeats 4000000 in
theorem shashes_c (w : World) (s bm : Nat) (room : Int) (L : List Nd5) (h : StoreAt w s bm room L) (hl : L.length ≤ 1000000) : Calls Tryz.prog 47 #[.pointer (some ⟨s, 0, none⟩)] w fun e w' => ∃ v, e = .returned v ∧ SRow w w' v L.length (baL (sortS (L.map (·.1)))) := by
  have q1 := h.st.cell (i := 1) (v := .map (some bm)) (by rfl)
  obtain ⟨es, ck, hm, hmv⟩ := h.mp.mp
  have hln := run_len_map Tryz.ES Tryz.uMapIt hm
  have hel : es.length = L.length := hmv.lenL
  rw [hel] at hln
  obtain ⟨i0, hi, hz0, hz1, hz2⟩ := info_parts Tryz.infoS1
  obtain ⟨w1, hmk0, hown, hgr⟩ := run_make_own (P := Tryz.prog) (w := w) w.heap.size 22 9 i0 _ 1 Tryz.sStrs.ht hi hz0 hz1 .i64 .i64 L.length (by rw [hz2]; omega) (by unfold maxLen; omega) (Nat.le_refl _)
  have k1 : Ext w w1 := Keeps.of_grown hgr (fun _ e => by cases e)
  have hr1 := ORow.made w hown hgr
  have q1' := cell_ext q1 k1
  have hm1 := hm.keeps k1 (fun g => g)
  have hrg := run_range Tryz.ES Tryz.uMapIt hm1
  have HM := Lib.hid hmv
  have K1 := Lib.hid k1
  have HR1 := Lib.hid hr1
  have HM0 := Lib.hid hm
  clear h hown hgr hm hmv hi hz0 hz1 hz2 k1 hr1 hm1
  go_enter Tryz.func47, Tryz.ntmps47
  go_wp2_with fail
  obtain ⟨r, hr⟩ : ∃ r, r = w1.heap.size := ⟨_, rfl⟩
  have HR := Lib.hid hr
  rw [← hr]
  clear hr
  go_loopw [3] (fun v wr => HaRel w r bm ck es v wr) (fun v _ => L.length - slN v)
  case atStart =>
    have hz := K1.out.size
    refine ⟨[], ⟨HR1.out.mono ((ExtR w1).alloc _), ?_, fun x hx => (by cases hx), List.nodup_nil, fun b hb e => ?_⟩⟩
    · rw [HR.out]; exact Blk.new w1 _
    · have := HR1.out.lt b hb
      rw [HR.out] at e; omega
  case round =>
    obtain ⟨sn, hS⟩ := hrel
    obtain ⟨ad, cp, rfl⟩ := hS.row.sl
    have hMr := (HM0.out).keeps hS.row.ext (fun g => g)
    have hsnl : sn.length ≤ es.length := hS.len
    rcases run_next Tryz.ES hMr hS.it HM.out.lt 0 with ⟨hl0, hnx⟩ | ⟨x, hxl, w2, hnx, hr2, hk2⟩
    · have hp := hS.done hl0 HM.out.born
      have hln2 : sn.length = L.length := by rw [hp.length_eq, hel]
      have hks : sortS (sn.map (·.1)) = sortS (L.map (·.1)) := by
        rw [sortS_perm (hp.map _), HM.out.keysL]
      have HKS := Lib.hid hks
      have HRW := Lib.hid (show ORow 9 1 w wr (.slice ad sn.length cp) sn.length ((sn.map (·.1)).map encStr) from hS.row)
      have HLN := Lib.hid hln2
      clear hS hMr hp hks hln2 hl0 hmk0
      go_wp2_with fail
      refine (sort_s HRW.out (by rw [HLN.out]; exact hl)).mono ?_
      rintro e w3 ⟨rfl, hs3⟩
      rw [HKS.out] at hs3
      rw [HLN.out] at hs3 ⊢
      have HS3 := Lib.hid hs3
      clear hs3 HRW HLN
      go_wp2_with fail
      go_ret
      refine ⟨_, rfl, ?_⟩
      unfold SRow
      rw [baL_map]
      exact HS3.out
    · have hrw : w.heap.size ≤ r := by rw [HR.out]; exact K1.out.size
      have hbm := HM0.out.lt
      have hM2 := hMr.keeps hk2 (fun e => by have e : bm = r := e; omega)
      have hxm : x ∈ es := (List.mem_filter.1 hxl).1
      have hnb : x.2.2 ∉ sn.map (·.2.2) := by have := (List.mem_filter.1 hxl).2; simpa [bornK] using this
      have hen := run_entry Tryz.ES hM2 hxm hr2 HM.out.born
      have hnd2 : ((sn ++ [x]).map (·.2.2)).Nodup := by
        rw [List.map_append, List.nodup_append]
        exact ⟨hS.nd, by simp, fun a ha b hb e => by simp at hb; subst hb; subst e; exact hnb ha⟩
      have hsb2 : ∀ y ∈ sn ++ [x], y ∈ es := fun y hy => by
        rcases List.mem_append.1 hy with hy | hy
        · exact hS.sub y hy
        · simp at hy; exact hy ▸ hxm
      have hlt2 : sn.length + 1 ≤ L.length := by
        have := List.Nodup.length_le_of_subset (nodup_of _ hnd2) (fun y hy => hsb2 y hy)
        rw [hel] at this; simpa using this
      have hrow2 : ORow 9 1 w w2 (.slice ad sn.length cp) sn.length (keyS sn) := hS.row.keeps hk2 (fun b hb e => hS.ne b hb e) (fun b hb e => by have e : b = r := e; omega)
      have hr2' : Blk w2 r (.mapIter (some bm) ck (bornK (sn ++ [x])) ck) := by
        have e : bornK (sn ++ [x]) = (bornK sn).push x.2.2 := by unfold bornK; simp
        rw [e]; exact hr2
      have HS2 := Lib.hid (And.intro hnd2 (And.intro hsb2 hS.ne))
      have HRW := Lib.hid hrow2
      have HIT := Lib.hid hr2'
      have hm1 : sn.length + 1 ≤ maxLen := by unfold maxLen; omega
      have hm2 : (sn.length + 1) * 16 ≤ 140737488355328 := by omega
      have hrl := hr2.lt
      obtain ⟨kx, hkx⟩ : ∃ kx, kx = x.1 := ⟨_, rfl⟩
      have HKX := Lib.hid hkx
      have hen' : (Instr.entry (.pointer (some ⟨r, 0, none⟩))).run Tryz.prog w2 = .ok (.tuple #[encStr kx, x.2.1]) w2 := by rw [hkx]; exact hen
      have hnx' : (Instr.next (.pointer (some ⟨r, 0, none⟩)) false 0).run Tryz.prog wr = .ok (.tuple #[.bool true, encStr kx, x.2.1]) w2 := by rw [hkx]; exact hnx
      obtain ⟨n, hn⟩ : ∃ n, n = sn.length := ⟨_, rfl⟩
      have HN := Lib.hid hn
      rw [← hn] at hm1 hm2 hlt2 hrow2 HRW HS2 ⊢
      clear hS hMr hM2 hxl hr2 hk2 hxm hnb hen hnd2 hsb2 hrow2 hr2' hmk0 hnx hkx hsnl hn
      unfold encStr at hen' hnx'
      go_wp2_with (at_builtin; refine wpList_app Tryz.sStrs (HRW.out.mono ((ExtR w2).alloc _)) (.tmp 20) (.tmp 22) rfl rfl rfl (news_blk (Blk.new w2 _)) (news := [encStr kx]) (by intro u hu; simp at hu; rcases hu with rfl; rfl) rfl rfl hm1 hm2 ?_; intro v' w' r1 r2 r3)
      have HX := Lib.hid (And.intro r1 (And.intro r2 r3))
      obtain ⟨ad', cp', rfl⟩ := r1.sl
      clear r1 r2 r3
      go_wp2_with fail
      go_roundw
      case rel =>
        obtain ⟨r1, r2, r3⟩ := HX.out
        have hal := ((ExtR w2).alloc (.cells #[.string ⟨kx.toArray⟩] 9)).size
        refine ⟨sn ++ [x], ?_, ?_, HS2.out.2.1, HS2.out.1, ?_⟩
        · have e : keyS (sn ++ [x]) = keyS sn ++ [encStr kx] := by unfold keyS; simp [HKX.out]
          rw [e, List.length_append, ← HN.out]
          exact r1
        · refine (HIT.out.alloc _).keeps r2 (fun e => HS2.out.2.2 r e rfl)
        · intro b hb e
          rcases r3 with r3 | r3
          · exact HS2.out.2.2 b (r3 ▸ hb) e
          · have := r3 b hb; omega
      case measure => simp [slN]; omega
end
end Go.Proofs.YtjogjmffkmfmbaaGreatDoor
/- reference 02: Same. -/
namespace Go.Proofs.YtjogjmffkmfmbaaGreatDoor
section
open Go Go.RowKit
set_option linter.unusedSimpArgs false
set_option linter.unusedVariables false
attribute [local go_sem] Oper.semAt_some
end
end Go.Proofs.YtjogjmffkmfmbaaGreatDoor
/- store: Drop of what is not held. -/
namespace Go.Proofs.YtjogjmffkmfmbaaGreatDoor
section
open Go Go.RowKit
set_option linter.unusedSimpArgs false
set_option linter.unusedVariables false
attribute [local go_sem] Oper.semAt_some
set_option maxRecDepth 100000 in
set_option maxHeartbeats 4000000 in
theorem drop_none (w : World) (s bm : Nat) (room : Int) (S : List Nd5) (h : StoreAt w s bm room S) (k : ByteArray) (hy : atL S k.data.toList = none) :
    Calls Tryz.prog 39 #[.pointer (some ⟨s, 0, none⟩), .string k] w fun e w' => e = .returned (.int .i64 4) ∧ Ext w w' := by
  have hc := sheld_c w s bm room S k h
  rw [hy] at hc
  have HC := Lib.hid (show Calls Tryz.prog 45 #[.pointer (some ⟨s, 0, none⟩), .string k] w fun e w' => e = .returned (.int .i64 0) ∧ Ext w w' from hc)
  clear hc h hy
  go_enter Tryz.func39, Tryz.ntmps39
  go_wp2_with fail
  refine HC.out.mono ?_
  rintro e w1 ⟨rfl, hE⟩
  have HE := Lib.hid hE
  clear hE
  go_wp2_with fail
  go_ret
  exact ⟨rfl, HE.out⟩
end
end Go.Proofs.YtjogjmffkmfmbaaGreatDoor
/- law 06: works. -/
namespace Go.Proofs.YtjogjmffkmfmbaaGreatDoor
section
open Go Go.RowKit
set_option linter.unusedSimpArgs false
set_option linter.unusedVariables false
attribute [local go_sem] Oper.semAt_some
def lfN : NodeT := ⟨1, ⟨#[]⟩, ⟨#[118]⟩, noRefs 16⟩
theorem lf_good : GoodW (InlD 0) lfN := GoodW.leaf ⟨#[]⟩ ⟨#[118]⟩ (by decide) (by decide) (by decide)
def lfT : ByteArray := nodeB lfN
theorem lf_is : IsNode lfT lfN := ⟨rfl, 0, lf_good⟩
theorem lf_hashes (w : World) : hashesT (nodeOf lfT) = [] := by
  rw [isNode_inj w (nodeOf_is lf_is) lf_is]; exact hashes_no 16
theorem lf_shut (w : World) {L : List ByteArray} (hL : ∀ x ∈ L, x = lfT) (hl : L.length ≤ 1000) : ShutL L :=
  ⟨fun t ht => (by rw [hL t ht]; exact ⟨lfN, lf_is⟩), fun t ht h hh => (by rw [hL t ht, lf_hashes w] at hh; cases hh), hl⟩
/-- The leaf is put again: held once more. -/
theorem leaf_again {G : List Nd5} {L : List ByteArray} {t : ByteArray} (hG : G.map kvI = readG L) (hL : ∀ x ∈ L, x = t) (h0 : hashesT (nodeOf t) = []) (b : Nat) :
    bumpH (shaB t).data.toList (bumps (([] : List ByteArray).flatMap (refsO G)) ([((shaB t).data.toList, b, ⟨t, [], 0, 1⟩)] ++ picks G [])) = [((shaB t).data.toList, b, ⟨t, [], 0, 2⟩)] := by
  show bumpH (shaB t).data.toList [((shaB t).data.toList, b, ⟨t, [], 0, 1⟩)] = _
  unfold bumpH
  rw [List.map_cons, List.map_nil, if_pos rfl]
  rfl
theorem new1 {w w' : World} {s bm : Nat} {L : List ByteArray} {t : ByteArray} {e : Ending} (hL : ∀ x ∈ L, x = t) (h0 : hashesT (nodeOf t) = []) (hm : t ∈ L) (h : AddPost w s bm 3 [] L t e w') :
    ∃ b, w.heap.size ≤ b ∧ e = .returned (.tuple #[.string (shaB t), .int .i64 0]) ∧ StoreAt w' s bm 3 [((shaB t).data.toList, b, ⟨t, [], 0, 1⟩)] ∧ Keeps (fun z => z = bm) w w' := by
  obtain ⟨G, M, hG, hnew, hP, h⟩ := h
  have hM := path_leaf hG hL h0 hP
  have hF : frK [] M = [shaB t] := by rw [hM, frK_one]; rfl
  rw [hF] at h
  rcases h with ⟨h, _⟩ | ⟨_, he, hS, hK⟩
  · exact absurd h (by show ¬ (3 : Int) - ((0 : Nat) : Int) < ((1 : Nat) : Int); decide)
  · obtain ⟨b, hb, e2⟩ := leaf_new hG hL h0 hm
    rw [e2] at hS
    obtain ⟨y, hy, rfl⟩ := List.mem_map.1 hb
    exact ⟨y.2.1, hnew y hy, he, hS, hK.mono (fun z _ g => g.elim id (fun g => by cases g))⟩
theorem again1 {w w' : World} {s bm b : Nat} {L : List ByteArray} {t : ByteArray} {e : Ending} (hL : ∀ x ∈ L, x = t) (h0 : hashesT (nodeOf t) = []) (h : AddPost w s bm 3 [((shaB t).data.toList, b, ⟨t, [], 0, 1⟩)] L t e w') :
    e = .returned (.tuple #[.string (shaB t), .int .i64 0]) ∧ StoreAt w' s bm 3 [((shaB t).data.toList, b, ⟨t, [], 0, 2⟩)] ∧ Keeps (fun z => z = bm ∨ z = b) w w' := by
  obtain ⟨G, M, hG, hnew, hP, h⟩ := h
  have hM := path_leaf hG hL h0 hP
  have hF : frK [((shaB t).data.toList, b, ⟨t, [], 0, 1⟩)] M = [] := by
    rw [hM, frK_one, if_neg]
    unfold atL; simp
  rw [hF] at h
  rcases h with ⟨h, _⟩ | ⟨_, he, hS, hK⟩
  · exact absurd h (by show ¬ (3 : Int) - ((1 : Nat) : Int) < ((0 : Nat) : Int); decide)
  · rw [leaf_again hG hL h0 b] at hS
    exact ⟨he, hS, hK.mono (fun z _ g => g.elim .inl (fun g => .inr (by simpa using g)))⟩
theorem one_all (kx : Key) (b : Nat) (t : ByteArray) (n : Int) (h0 : 0 ≤ n) (h1 : n ≤ 1000000000) : ∀ x ∈ [(kx, b, (⟨t, [], 0, n⟩ : It))], 0 ≤ x.2.2.used ∧ x.2.2.used ≤ 1000000000 ∧ 0 ≤ x.2.2.held ∧ x.2.2.held ≤ 1000000000 := by
  intro x hx
  rw [List.mem_singleton] at hx
  subst hx
  exact ⟨Int.le_refl _, (show (0 : Int) ≤ 1000000000 by decide), h0, h1⟩
set_option maxRecDepth 100000 in
set_option maxHeartbeats 8000000 in
theorem works6_c (w : World) (hc : Cubes w) : Calls Tryz.prog 36 #[] w fun e w' => e = .returned (.bool true) ∧ Ext w w' := by
  have HC := Lib.hid hc
  clear hc
  go_enter Tryz.func36, Tryz.ntmps36
  go_wp2_with fail
  refine (snew_c w 3).mono ?_
  rintro e w1 ⟨s, bm, rfl, hE, hS, hb1, hb2, hb3⟩
  have HE1 := Lib.hid hE
  have HS1 := Lib.hid (show StoreAt w1 s bm 3 [] from hS)
  have HNB := Lib.hid (And.intro hb1 hb2)
  clear hE hS hb1 hb2 hb3
  go_wp2_with fail
  refine (show Calls Tryz.prog 76 #[lfN.V] w1 fun e w' => e = .returned (.tuple #[.string lfT, .int .i64 0]) ∧ Ext w1 w' from nput_c (inlP 0) w1 lfN lf_good).mono ?_
  rintro e w2 ⟨rfl, hE⟩
  have HE2 := Lib.hid (HE1.out.trans hE)
  have HS2 := Lib.hid (HS1.out.ext hE)
  have H0 := Lib.hid (lf_hashes w)
  have HSH := Lib.hid (fun L hL hl => lf_shut w (L := L) hL hl)
  obtain ⟨t, ht⟩ : ∃ t, t = lfT := ⟨_, rfl⟩
  rw [← ht] at H0 HSH ⊢
  clear hE HS1 HE1 ht
  go_wp2_with fail
  have hx3 : Ext w2 (w2.alloc (.cells #[.string t] 9)) := (ExtR w2).alloc _
  refine (add_c _ (HC.out.ext (HE2.out.trans hx3)) s bm 3 [] (HS2.out.ext hx3) _ [t] (rds_lit w2 [t] 9) (HSH.out [t] (by simp) (by simp)) t rfl (by decide) (by decide) (by simp) (fun x hx => by cases hx) (fun x hx => by cases hx)).mono ?_
  rintro e w4 hP
  obtain ⟨b, hbn, rfl, hS4, hK4⟩ := new1 (by simp) H0.out (by simp) hP
  have HS4 := Lib.hid hS4
  have HE4 := Lib.hid ((HE2.out.trans hx3).trans' hK4 (fun z hz e => by have e : z = bm := e; have := HNB.out.1; omega))
  have HBN := Lib.hid (show w.heap.size ≤ b from Nat.le_trans (HE2.out.trans hx3).size hbn)
  clear hP hS4 hK4 hx3 hbn HS2 HE2
  obtain ⟨rt, hrt⟩ : ∃ rt, rt = shaB t := ⟨_, rfl⟩
  have HRT := Lib.hid hrt
  rw [← hrt]
  clear hrt
  go_wp2_with fail
  have hx5 : Ext w4 (w4.alloc (.cells #[.string t, .string t] 9)) := (ExtR w4).alloc _
  refine (add_c _ (HC.out.ext (HE4.out.trans hx5)) s bm 3 _ (HS4.out.ext hx5) _ [t, t] (rds_lit w4 [t, t] 9) (HSH.out [t, t] (by simp) (by simp)) t rfl (by decide) (by decide) (by simp) (fun x hx => ⟨(one_all _ _ _ _ (by decide) (by decide) x hx).1, (one_all _ _ _ _ (by decide) (by decide) x hx).2.1⟩) (fun x hx => (one_all _ _ _ _ (by decide) (by decide) x hx).2.2)).mono ?_
  rintro e w6 hP
  obtain ⟨rfl, hS6, hK6⟩ := again1 (by simp) H0.out hP
  have HE6 := Lib.hid ((HE4.out.trans hx5).trans' hK6 (fun z hz e => by have := HNB.out.1; have := HBN.out; rcases e with e | e <;> omega))
  rw [← HRT.out] at hS6 ⊢
  have HS6 := Lib.hid hS6
  clear hP hS6 hK6 hx5 HS4 HE4
  go_wp2_with fail
  have hat : ∀ n : Int, atL [(rt.data.toList, b, (⟨t, [], 0, n⟩ : It))] rt.data.toList = some (rt.data.toList, b, ⟨t, [], 0, n⟩) := fun n => by unfold atL; simp
  refine (drop_more w6 s bm 3 _ HS6.out (one_all _ _ _ _ (by decide) (by decide)) rt _ (hat 2) (by show (1 : Int) ≤ 2; decide) (by show (2 : Int) ≤ 0 + 2; decide)).mono ?_
  rintro e w7 ⟨rfl, hS7, hK7⟩
  have e7 : [(rt.data.toList, b, (⟨t, [], 0, 2⟩ : It))].map (setB 3 b ((2 : Int) - 1)) = [(rt.data.toList, b, (⟨t, [], 0, 1⟩ : It))] := by
    rw [List.map_cons, List.map_nil]; unfold setB; rw [if_pos rfl]; rfl
  have hS7 : StoreAt w7 s bm 3 [(rt.data.toList, b, (⟨t, [], 0, 1⟩ : It))] := by rw [← e7]; exact hS7
  have HS7 := Lib.hid hS7
  have HE7 := Lib.hid (HE6.out.trans' hK7 (fun z hz e => by have e : z = b := e; have := HBN.out; omega))
  have HAT := Lib.hid hat
  clear hS7 hK7 e7 HS6 HE6 hat
  go_wp2_with fail
  refine (scount_c w7 s bm 3 _ rt HS7.out (fun x hx => by have := one_all _ _ _ _ (by decide) (by decide) x hx; omega)).mono ?_
  rintro e w8 ⟨rfl, hE⟩
  rw [HAT.out 1, show countO (some (rt.data.toList, b, (⟨t, [], 0, 1⟩ : It))) = 1 from rfl]
  have HS8 := Lib.hid (HS7.out.ext hE)
  have HE8 := Lib.hid (HE7.out.trans hE)
  clear hE HS7 HE7
  go_wp2_with fail
  refine (sget_c w8 s bm 3 _ rt HS8.out).mono ?_
  rintro e w9 ⟨rfl, hE⟩
  rw [HAT.out 1, show optV ((some (rt.data.toList, b, (⟨t, [], 0, 1⟩ : It))).map (·.2.2.text)) = optV (some t) from rfl]
  have HS9 := Lib.hid (HS8.out.ext hE)
  have HE9 := Lib.hid (HE8.out.trans hE)
  clear hE HS8 HE8
  unfold optV
  go_wp2_with fail
  refine (sroom_c w9 s bm 3 _ HS9.out (by decide) (by decide) (by simp)).mono ?_
  rintro e w10 ⟨rfl, hE⟩
  rw [show (3 : Int) - (([(rt.data.toList, b, (⟨t, [], 0, 1⟩ : It))] : List Nd5).length : Int) = 2 from rfl]
  have HS10 := Lib.hid (HS9.out.ext hE)
  have HE10 := Lib.hid (HE9.out.trans hE)
  clear hE HS9 HE9
  go_wp2_with fail
  refine (drop_last w10 s bm 3 _ HS10.out (one_all _ _ _ _ (by decide) (by decide)) rt _ (HAT.out 1) rfl rfl rfl).mono ?_
  rintro e w11 ⟨rfl, hS11, hK11⟩
  have e11 : delL ([(rt.data.toList, b, (⟨t, [], 0, 1⟩ : It))].map (setB 3 b ((1 : Int) - 1))) rt.data.toList = [] := by
    rw [List.map_cons, List.map_nil]; unfold setB delL; rw [if_pos rfl]; simp
  have hS11 : StoreAt w11 s bm 3 [] := by rw [← e11]; exact hS11
  have HS11 := Lib.hid hS11
  have HE11 := Lib.hid (HE10.out.trans' hK11 (fun z hz e => by have := HNB.out.1; have := HBN.out; have e : z = b ∨ z = bm := e; omega))
  clear hS11 hK11 e11 HS10 HE10 HAT
  go_wp2_with fail
  refine (sget_c w11 s bm 3 [] rt HS11.out).mono ?_
  rintro e w12 ⟨rfl, hE⟩
  rw [show optV ((atL [] rt.data.toList).map (·.2.2.text)) = optV none from rfl]
  have HS12 := Lib.hid (HS11.out.ext hE)
  have HE12 := Lib.hid (HE11.out.trans hE)
  clear hE HS11 HE11
  unfold optV
  go_wp2_with fail
  refine (add_nil w12 _ none 0).mono ?_
  rintro e w13 ⟨rfl, hE⟩
  have HS13 := Lib.hid (HS12.out.ext hE)
  have HE13 := Lib.hid (HE12.out.trans hE)
  clear hE HS12 HE12
  go_wp2_with fail
  have hx14 : Ext w13 (w13.alloc (.cells #[.string t] 9)) := (ExtR w13).alloc _
  have hrr : (rt == rt) = true := by rw [ba_beq]; exact decide_eq_true rfl
  have htt : (t == t) = true := by rw [ba_beq]; exact decide_eq_true rfl
  refine (of_t _ _ [t] (by simp) (rds_lit w13 [t] 9) (HC.out.ext (HE13.out.trans hx14))).mono ?_
  rintro e w14 ⟨rfl, hE⟩
  rw [catB_one, ← HRT.out]
  have HS14 := Lib.hid ((HS13.out.ext hx14).ext hE)
  have HE14 := Lib.hid ((HE13.out.trans hx14).trans hE)
  clear hE hx14 HS13 HE13
  go_wp2_with fail
  refine (drop_none w14 s bm 3 [] HS14.out rt rfl).mono ?_
  rintro e w15 ⟨rfl, hE⟩
  have HS15 := Lib.hid (HS14.out.ext hE)
  have HE15 := Lib.hid (HE14.out.trans hE)
  clear hE HS14 HE14
  go_wp2_with fail
  refine (shashes_c w15 s bm 3 [] HS15.out (by simp)).mono ?_
  rintro e w16 ⟨v, rfl, hR⟩
  obtain ⟨va, vc, hv⟩ := hR.sl
  have hv : v = .slice va 0 vc := hv
  subst hv
  have HS16 := Lib.hid (HS15.out.ext hR.ext)
  have HE16 := Lib.hid (HE15.out.trans hR.ext)
  clear hR HS15 HE15
  go_wp2_with fail
  refine (sroom_c w16 s bm 3 [] HS16.out (by decide) (by decide) (by simp)).mono ?_
  rintro e w17 ⟨rfl, hE⟩
  rw [show (3 : Int) - ((([] : List Nd5).length : Nat) : Int) = 3 from rfl]
  have HS17 := Lib.hid (HS16.out.ext hE)
  have HE17 := Lib.hid (HE16.out.trans hE)
  clear hE HS16 HE16
  go_wp2_with fail
  refine (sheld_c w17 s bm 3 [] rt HS17.out).mono ?_
  rintro e w18 ⟨rfl, hE⟩
  rw [show heldO (atL ([] : List Nd5) rt.data.toList) = 0 from rfl]
  have HE18 := Lib.hid (HE17.out.trans hE)
  clear hE HS17 HE17
  go_wp2_with fail
  go_ret
  exact ⟨rfl, HE18.out⟩
end
end Go.Proofs.YtjogjmffkmfmbaaGreatDoor
