/- Parts of the proof, one behind the other: StoreA. Each is under no condition but those that it states. -/
import Derived.Test.YtneojlgbcaejmaaGreatDoorBa28
import Derived.Test.YtneojlgbcaejmaaGreatDoorBa25
/- store: maps of items in memory; Get, Count, Held, Room, New. -/
namespace Go.Proofs.YtneojlgbcaejmaaGreatDoor
section
open Go Go.RowKit
set_option linter.unusedSimpArgs false
set_option linter.unusedVariables false
abbrev Key := List UInt8
abbrev EntK := Ent Key
/-! A map in memory as a list. -/
def kvE (x : EntK) : Key × Value := (x.1, x.2.1)
def getV (m : List (Key × Value)) (k : Key) : Option Value := (m.find? fun x => decide (k = x.1)).map (·.2)
def putV : List (Key × Value) → Key → Value → List (Key × Value)
  | [], k, v => [(k, v)]
  | x :: r, k, v => if k = x.1 then (k, v) :: r else x :: putV r k v
def delV : List (Key × Value) → Key → List (Key × Value)
  | [], _ => []
  | x :: r, k => if k = x.1 then r else x :: delV r k
structure MapV (es : List EntK) (ck : Nat) (m : List (Key × Value)) : Prop where
  same : es.map kvE = m
  born : (es.map (·.2.2)).Nodup
  lt : ∀ x ∈ es, x.2.2 < ck
  keys : (m.map (·.1)).Nodup
theorem MapV.nil (ck : Nat) : MapV [] ck [] := ⟨rfl, by simp, by simp, by simp⟩
theorem MapV.len {es : List EntK} {ck : Nat} {m : List (Key × Value)} (h : MapV es ck m) : es.length = m.length := by rw [← h.same]; simp
theorem get_kv (k : Key) : ∀ es : List EntK, entGet es k = getV (es.map kvE) k
  | [] => rfl
  | x :: r => by
    have ih := get_kv k r
    unfold getV entGet at *
    rw [List.map_cons, List.find?_cons, List.find?_cons]
    by_cases h : k = x.1
    · simp [h, kvE]
    · simp [h, kvE] at ih ⊢; exact ih
theorem MapV.get {es : List EntK} {ck : Nat} {m : List (Key × Value)} (h : MapV es ck m) (k : Key) : entGet es k = getV m k := by rw [get_kv, h.same]
theorem put_kv (k : Key) (v : Value) (n : Nat) : ∀ es : List EntK, (entPut es k v n).map kvE = putV (es.map kvE) k v
  | [] => rfl
  | x :: r => by
    unfold entPut
    rw [List.map_cons, putV]
    by_cases h : k = x.1
    · rw [if_pos h, if_pos (show k = (kvE x).1 from h), List.map_cons]; rfl
    · rw [if_neg h, if_neg (show ¬ k = (kvE x).1 from h), List.map_cons, put_kv k v n r]
theorem del_kv (k : Key) : ∀ es : List EntK, (entDel es k).map kvE = delV (es.map kvE) k
  | [] => rfl
  | x :: r => by
    unfold entDel
    rw [List.map_cons, delV]
    by_cases h : k = x.1
    · rw [if_pos h, if_pos (show k = (kvE x).1 from h)]
    · rw [if_neg h, if_neg (show ¬ k = (kvE x).1 from h), List.map_cons, del_kv k r]
theorem getK_cons (x : EntK) (r : List EntK) (k : Key) : entGet (x :: r) k = if k = x.1 then some x.2.1 else entGet r k := by
  by_cases h : k = x.1 <;> simp [entGet, h]
theorem putK_born (k : Key) (v : Value) (n : Nat) : ∀ es : List EntK, (entPut es k v n).map (·.2.2) = if (entGet es k).isSome then es.map (·.2.2) else es.map (·.2.2) ++ [n]
  | [] => rfl
  | x :: r => by
    unfold entPut
    rw [getK_cons]
    by_cases h : k = x.1
    · rw [if_pos h, if_pos h]; simp
    · rw [if_neg h, if_neg h, List.map_cons, putK_born k v n r]
      cases (entGet r k).isSome <;> simp
theorem putV_keys (k : Key) (v : Value) : ∀ m : List (Key × Value), (putV m k v).map (·.1) = if k ∈ m.map (·.1) then m.map (·.1) else m.map (·.1) ++ [k]
  | [] => rfl
  | x :: r => by
    rw [putV]
    by_cases h : k = x.1
    · rw [if_pos h, if_pos (by simp [h])]; simp [h]
    · rw [if_neg h, List.map_cons, putV_keys k v r]
      by_cases h2 : k ∈ r.map (·.1)
      · rw [if_pos h2, if_pos (by rw [List.map_cons]; exact List.mem_cons_of_mem _ h2)]; rfl
      · rw [if_neg h2, if_neg (by rw [List.map_cons, List.mem_cons]; exact fun e => e.elim h h2)]; rfl
theorem MapV.put {es : List EntK} {ck : Nat} {m : List (Key × Value)} (h : MapV es ck m) (k : Key) (v : Value) : MapV (entPut es k v ck) (if (entGet es k).isSome then ck else ck + 1) (putV m k v) := by
  have hb := putK_born k v ck es
  refine ⟨by rw [put_kv, h.same], ?_, ?_, ?_⟩
  · rw [hb]
    split
    · exact h.born
    · rw [List.nodup_append]
      refine ⟨h.born, by simp, fun a ha b hb e => ?_⟩
      obtain ⟨x, hx, e1⟩ := List.mem_map.1 ha
      have := h.lt x hx
      simp at hb; omega
  · intro x hx
    have hm : x.2.2 ∈ (entPut es k v ck).map (·.2.2) := List.mem_map.2 ⟨x, hx, rfl⟩
    rw [hb] at hm
    split at hm
    · rename_i hs
      rw [if_pos hs]
      obtain ⟨y, hy, e⟩ := List.mem_map.1 hm
      rw [← e]; exact h.lt y hy
    · rename_i hs
      rw [if_neg hs]
      rcases List.mem_append.1 hm with hm | hm
      · obtain ⟨y, hy, e⟩ := List.mem_map.1 hm
        have := h.lt y hy; omega
      · simp at hm; omega
  · rw [putV_keys]
    split
    · exact h.keys
    · rename_i hn
      rw [List.nodup_append]
      exact ⟨h.keys, by simp, fun a ha b hb e => by simp at hb; subst hb; subst e; exact hn ha⟩
theorem delK_sub (k : Key) : ∀ es : List EntK, (entDel es k).Sublist es
  | [] => List.Sublist.refl _
  | x :: r => by
    unfold entDel
    split
    · exact List.sublist_cons_self _ _
    · exact (delK_sub k r).cons_cons _
theorem delV_sub (k : Key) : ∀ m : List (Key × Value), (delV m k).Sublist m
  | [] => List.Sublist.refl _
  | x :: r => by
    unfold delV
    split
    · exact List.sublist_cons_self _ _
    · exact (delV_sub k r).cons_cons _
theorem MapV.del {es : List EntK} {ck : Nat} {m : List (Key × Value)} (h : MapV es ck m) (k : Key) : MapV (entDel es k) ck (delV m k) := by
  have hs := delK_sub k es
  exact ⟨by rw [del_kv, h.same], h.born.sublist (hs.map _), fun x hx => h.lt x (hs.subset hx), h.keys.sublist ((delV_sub k m).map _)⟩
/-! Items. -/
structure It where
  text : ByteArray
  refs : List ByteArray
  used : Int
  held : Int
/-- A node in the store: its key, its block, what it is. -/
abbrev Nd5 := Key × Nat × It
theorem Tryz.uMapIt : Tryz.prog.underlying 89 = some (.map 9 104) := by kernel_rfl
theorem Tryz.zeroIt (w : World) : (zeroValue 104).run Tryz.prog w = .ok (.pointer none) w := by kernel_rfl
structure ItemAt (W : World) (b : Nat) (it : It) : Prop where
  cells : ∃ rv, Blk W b (.cells #[.string it.text, rv, .int .i64 it.used, .int .i64 it.held] 106) ∧ W.ownsRow 0 9 1 rv it.refs.length (it.refs.map Value.string)
/-- No block of these is a row of texts. -/
def NoRow (W : World) (F : BSet) : Prop := ∀ b cur fz, F b → ¬ Blk W b (.cells cur 9 fz)
theorem NoRow.none (W : World) : NoRow W (fun _ => False) := fun _ _ _ h => h.elim
theorem row_keeps {W W' : World} {F : BSet} {v : Value} {n : Nat} {xs : List Value} (h : W.ownsRow 0 9 1 v n xs) (k : Keeps F W W') (hF : NoRow W F) : W'.ownsRow 0 9 1 v n xs := by
  refine own_keeps h k fun b hb hf => ?_
  obtain ⟨_, ⟨h1, _⟩ | ⟨g, cap, cur, h1, _, h3, _⟩⟩ := h
  · rw [h1] at hb; cases hb
  · rw [h1] at hb
    have e : some g = some b := hb
    obtain rfl := Option.some.inj e
    exact hF g cur (0, 0) hf h3
theorem ItemAt.keeps {W W' : World} {F : BSet} {b : Nat} {it : It} (h : ItemAt W b it) (k : Keeps F W W') (hb : ¬ F b) (hF : NoRow W F) : ItemAt W' b it := by
  obtain ⟨rv, h1, h2⟩ := h.cells
  exact ⟨rv, h1.keeps k hb, row_keeps h2 k hF⟩
theorem ItemAt.lt {W : World} {b : Nat} {it : It} (h : ItemAt W b it) : b < W.heap.size := by obtain ⟨rv, h1, _⟩ := h.cells; exact h1.lt
def kvN (x : Nd5) : Key × Value := (x.1, .pointer (some ⟨x.2.1, 0, none⟩))
/-- A map of items in memory. -/
structure MapAt (W : World) (bm : Nat) (L : List Nd5) : Prop where
  mp : ∃ es ck, Blk W bm (.map (Tryz.ES.arr es) ck) ∧ MapV es ck (L.map kvN)
  blks : (L.map (·.2.1)).Nodup
  items : ∀ x ∈ L, ItemAt W x.2.1 x.2.2
theorem MapAt.keeps {W W' : World} {F : BSet} {bm : Nat} {L : List Nd5} (h : MapAt W bm L) (k : Keeps F W W') (hm : ¬ F bm) (hL : ∀ x ∈ L, ¬ F x.2.1) (hF : NoRow W F) : MapAt W' bm L := by
  obtain ⟨es, ck, h1, h2⟩ := h.mp
  exact ⟨⟨es, ck, h1.keeps k hm, h2⟩, h.blks, fun x hx => (h.items x hx).keeps k (hL x hx) hF⟩
theorem MapAt.ext {W W' : World} {bm : Nat} {L : List Nd5} (h : MapAt W bm L) (k : Ext W W') : MapAt W' bm L := h.keeps k (fun h => h) (fun _ _ h => h) (NoRow.none W)
def atL (L : List Nd5) (k : Key) : Option Nd5 := L.find? fun x => decide (k = x.1)
theorem get_at (k : Key) : ∀ L : List Nd5, getV (L.map kvN) k = (atL L k).map fun x => .pointer (some ⟨x.2.1, 0, none⟩)
  | [] => rfl
  | x :: r => by
    have ih := get_at k r
    unfold getV atL at *
    rw [List.map_cons, List.find?_cons, List.find?_cons]
    by_cases h : k = x.1
    · simp [h, kvN]
    · simp [h, kvN] at ih ⊢; exact ih
theorem atL_mem {L : List Nd5} {k : Key} {x : Nd5} (h : atL L k = some x) : x ∈ L ∧ x.1 = k := by
  unfold atL at h
  have h2 := List.find?_some h
  exact ⟨List.mem_of_find?_eq_some h, (of_decide_eq_true h2).symm⟩
def ptrO (o : Option Nd5) : Value := match o with | some x => .pointer (some ⟨x.2.1, 0, none⟩) | none => .pointer none
/-- What a look into the map tells. -/
theorem MapAt.look {W : World} {bm : Nat} {L : List Nd5} (h : MapAt W bm L) (k : ByteArray) (ok : Bool) :
    (Instr.lookup 89 (.map (some bm)) (.string k) ok).run Tryz.prog W = .ok (if ok then .tuple #[ptrO (atL L k.data.toList), .bool (atL L k.data.toList).isSome] else ptrO (atL L k.data.toList)) W := by
  obtain ⟨es, ck, h1, h2⟩ := h.mp
  have := run_lookup Tryz.ES Tryz.uMapIt h1 (Tryz.zeroIt W) k.data.toList ok
  rw [h2.get, get_at] at this
  cases ha : atL L k.data.toList with
  | none => rw [ha] at this; exact this
  | some x => rw [ha] at this; exact this
/-- A store in memory: its room, its items. -/
structure StoreAt (W : World) (s bm : Nat) (room : Int) (L : List Nd5) : Prop where
  st : Blk W s (.cells #[.int .i64 room, .map (some bm)] 91)
  mp : MapAt W bm L
theorem StoreAt.ext {W W' : World} {s bm : Nat} {room : Int} {L : List Nd5} (h : StoreAt W s bm room L) (k : Ext W W') : StoreAt W' s bm room L := ⟨h.st.keeps k (fun h => h), h.mp.ext k⟩
/-! The small methods. -/
set_option maxRecDepth 100000 in
set_option maxHeartbeats 4000000 in
theorem sget_c (w : World) (s bm : Nat) (room : Int) (L : List Nd5) (k : ByteArray) (h : StoreAt w s bm room L) : Calls Tryz.prog 30 #[.pointer (some ⟨s, 0, none⟩), .string k] w fun e w' => e = .returned (optV ((atL L k.data.toList).map (·.2.2.text))) ∧ Ext w w' := by
  have q1 := h.st.cell (i := 1) (v := .map (some bm)) (by rfl)
  have hlk := h.mp.look k true
  have HI := Lib.hid h.mp.items
  simp only [if_true] at hlk
  clear h
  cases ha : atL L k.data.toList with
  | none =>
    rw [ha] at hlk
    unfold ptrO at hlk
    simp only [Option.isSome] at hlk
    clear ha
    go_enter Tryz.func30, Tryz.ntmps30
    go_wp2_with fail
    go_ret2
    exact ⟨rfl, ExtR w⟩
  | some x =>
    rw [ha] at hlk
    obtain ⟨rv, hB, _⟩ := (HI.out x (atL_mem ha).1).cells
    have q2 := hB.cell (i := 0) (v := .string x.2.2.text) (by rfl)
    unfold ptrO at hlk
    simp only [Option.isSome] at hlk
    clear ha hB
    go_enter Tryz.func30, Tryz.ntmps30
    go_wp2_with fail
    go_ret2
    exact ⟨rfl, ExtR w⟩
def heldO (o : Option Nd5) : Int := match o with | some x => x.2.2.held | none => 0
def countO (o : Option Nd5) : Int := match o with | some x => x.2.2.used + x.2.2.held | none => 0
set_option maxRecDepth 100000 in
set_option maxHeartbeats 4000000 in
theorem sheld_c (w : World) (s bm : Nat) (room : Int) (L : List Nd5) (k : ByteArray) (h : StoreAt w s bm room L) : Calls Tryz.prog 36 #[.pointer (some ⟨s, 0, none⟩), .string k] w fun e w' => e = .returned (.int .i64 (heldO (atL L k.data.toList))) ∧ Ext w w' := by
  have q1 := h.st.cell (i := 1) (v := .map (some bm)) (by rfl)
  have hlk := h.mp.look k true
  have HI := Lib.hid h.mp.items
  simp only [if_true] at hlk
  clear h
  cases ha : atL L k.data.toList with
  | none =>
    rw [ha] at hlk
    unfold ptrO at hlk
    simp only [Option.isSome] at hlk
    clear ha
    go_enter Tryz.func36, Tryz.ntmps36
    go_wp2_with fail
    go_ret
    exact ⟨rfl, ExtR w⟩
  | some x =>
    rw [ha] at hlk
    obtain ⟨rv, hB, _⟩ := (HI.out x (atL_mem ha).1).cells
    have q2 := hB.cell (i := 3) (v := .int .i64 x.2.2.held) (by rfl)
    unfold ptrO at hlk
    simp only [Option.isSome] at hlk
    clear ha hB
    go_enter Tryz.func36, Tryz.ntmps36
    go_wp2_with fail
    go_ret
    exact ⟨rfl, ExtR w⟩
set_option maxRecDepth 100000 in
set_option maxHeartbeats 4000000 in
theorem scount_c (w : World) (s bm : Nat) (room : Int) (L : List Nd5) (k : ByteArray) (h : StoreAt w s bm room L) (hb : ∀ x ∈ L, -1000000000 ≤ x.2.2.used ∧ x.2.2.used ≤ 1000000000 ∧ -1000000000 ≤ x.2.2.held ∧ x.2.2.held ≤ 1000000000) : Calls Tryz.prog 32 #[.pointer (some ⟨s, 0, none⟩), .string k] w fun e w' => e = .returned (.int .i64 (countO (atL L k.data.toList))) ∧ Ext w w' := by
  have q1 := h.st.cell (i := 1) (v := .map (some bm)) (by rfl)
  have hlk := h.mp.look k true
  have HI := Lib.hid h.mp.items
  simp only [if_true] at hlk
  clear h
  cases ha : atL L k.data.toList with
  | none =>
    rw [ha] at hlk
    unfold ptrO at hlk
    simp only [Option.isSome] at hlk
    clear ha hb
    go_enter Tryz.func32, Tryz.ntmps32
    go_wp2_with fail
    go_ret
    exact ⟨rfl, ExtR w⟩
  | some x =>
    rw [ha] at hlk
    have hbx := hb x (atL_mem ha).1
    obtain ⟨rv, hB, _⟩ := (HI.out x (atL_mem ha).1).cells
    have Q2 := Lib.hid (hB.cell (i := 2) (v := .int .i64 x.2.2.used) (by rfl))
    have Q3 := Lib.hid (hB.cell (i := 3) (v := .int .i64 x.2.2.held) (by rfl))
    unfold ptrO at hlk
    simp only [Option.isSome] at hlk
    obtain ⟨ky, b, ⟨tx, rf, us, hd⟩⟩ := x
    simp only at hlk Q2 Q3 hbx
    have hs1 : -9223372036854775808 ≤ us + hd := by omega
    have hs2 : us + hd ≤ 9223372036854775807 := by omega
    clear ha hB hb
    go_enter Tryz.func32, Tryz.ntmps32
    go_wp2_with fail
    refine wp_region_mixK [0,1,2,3,4,5,6,7,8,9] Ext ExtR ExtT (by kernel_rfl) (by kernel_rfl) (by kernel_rfl) ?_
    iterate 1 (refine mixk_pure _ rfl (by kernel_rfl) rfl rfl (fun K hK => ?_); go_big_quiet_op; refine hK _ ?_; clear hK K)
    refine mixk_val _ (.pointer (some ⟨b, 0, none⟩)) rfl (by kernel_rfl) rfl (fun w1 _ => by kernel_rfl) ?_
    simp only [Act.put, List.setIfInBounds_toArray, List.set_cons_zero, List.set_cons_succ]
    iterate 1 (refine mixk_pure _ rfl (by kernel_rfl) rfl rfl (fun K hK => ?_); go_big_quiet_op; refine hK _ ?_; clear hK K)
    refine mixk_load ⟨b, 2, none⟩ _ rfl (by kernel_rfl) rfl rfl (fun w1 h1 => run_load_plain Tryz.underlying3 rfl (cell_ext Q2.out ((drewE _).trans h1))) ?_
    simp only [Act.put, List.setIfInBounds_toArray, List.set_cons_zero, List.set_cons_succ]
    iterate 1 (refine mixk_pure _ rfl (by kernel_rfl) rfl rfl (fun K hK => ?_); go_big_quiet_op; refine hK _ ?_; clear hK K)
    refine mixk_val _ (.pointer (some ⟨b, 0, none⟩)) rfl (by kernel_rfl) rfl (fun w1 _ => by kernel_rfl) ?_
    simp only [Act.put, List.setIfInBounds_toArray, List.set_cons_zero, List.set_cons_succ]
    iterate 1 (refine mixk_pure _ rfl (by kernel_rfl) rfl rfl (fun K hK => ?_); go_big_quiet_op; refine hK _ ?_; clear hK K)
    refine mixk_load ⟨b, 3, none⟩ _ rfl (by kernel_rfl) rfl rfl (fun w1 h1 => run_load_plain Tryz.underlying3 rfl (cell_ext Q3.out ((drewE _).trans h1))) ?_
    simp only [Act.put, List.setIfInBounds_toArray, List.set_cons_zero, List.set_cons_succ]
    iterate 2 (refine mixk_pure _ rfl (by kernel_rfl) rfl rfl (fun K hK => ?_); go_big_quiet_op; refine hK _ ?_; clear hK K)
    refine mixk_end (by kernel_rfl) (fun w3 he => ?_)
    have HE := Lib.hid ((drewE _).trans he)
    clear he
    go_wp2_with fail
    go_ret
    exact ⟨rfl, HE.out⟩
end
end Go.Proofs.YtneojlgbcaejmaaGreatDoor
