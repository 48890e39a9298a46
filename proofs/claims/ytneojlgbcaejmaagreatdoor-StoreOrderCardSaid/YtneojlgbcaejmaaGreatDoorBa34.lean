/- Parts of the proof, one behind the other: CurF, EntRow, CurG, CurH, IterP, CurI. Each is under no condition but those that it states. -/
import Derived.Test.YtneojlgbcaejmaaGreatDoorBa33
import Derived.Test.YtneojlgbcaejmaaGreatDoorBa21
import Derived.Test.YtneojlgbcaejmaaGreatDoorBa13
/- cursor: Seek. -/
namespace Go.Proofs.YtneojlgbcaejmaaGreatDoor
section
open Go Go.RowKit
set_option linter.unusedSimpArgs false
set_option linter.unusedVariables false
attribute [local go_sem] Oper.semAt_some
/-- The entries of a map from a key on, by their paths. -/
def restP (fr : ByteArray) (l : List Pair) : List Pair := absF (pathB fr) ⟨#[]⟩ (rowsL l)
/-- What a store must have of a map. -/
structure HasM (S : List Nd5) (l : List Pair) : Prop where
  ok : checkN l = 0
  has : ∀ x ∈ flatT (trieT l), HasS S x
theorem nil_app (x : ByteArray) : (⟨#[]⟩ : ByteArray) ++ x = x := ByteArray.empty_append
theorem path_key (k : ByteArray) : keyOk (pathB k) = true := by
  unfold keyOk
  rw [path_valid, path_size]; simp
theorem HasM.ref {S : List Nd5} {l : List Pair} (h : HasM S l) (hn : l ≠ []) : RefOk (HasS S) ⟨#[]⟩ 12 (rowsL l) := by
  have hr := rows_ok (check_ok h.ok)
  refine ⟨hr, fun e => hn (by unfold rowsL at e; simpa using e), fun x hx _ => h.has x hx, fun q hq => ?_⟩
  rw [nil_app]
  obtain ⟨p, hp, rfl⟩ := List.mem_map.1 hq
  refine ⟨path_key _, ?_⟩
  exact (hr.size _ (List.mem_map_of_mem hp)).2.1
theorem seek_stack {S : List Nd5} {l : List Pair} (h : HasM S l) (fr : ByteArray) : ∃ N, N ≤ 200 ∧ StackD (HasS S) (pathB fr) (layP (pathB fr) (nodeF (buildT 12) (rowsL l)) ⟨#[]⟩).reverse (restP fr l) N := by
  by_cases hn : l = []
  · subst hn
    exact ⟨0, by omega, rfl, rfl⟩
  · have hR := h.ref hn
    obtain ⟨N, h1, h2⟩ := lay_den (pathB fr) hR
    have h3 := (cnt_le 12 (rowsL l) hR.rows hR.ne).all
    have h4 : (rowsL l).length = l.length := by unfold rowsL; rw [List.length_map]
    have h5 := (check_ok h.ok).len
    exact ⟨N, by omega, h2⟩
theorem Tryz.enterLay : ∀ args w, (callFunc 42 args).run Tryz.prog w = .ok (.enter 42 args) w := fun _ _ => by kernel_rfl
def SeekP (S : List Nd5) (s : Nat) (fr : ByteArray) (l : List Pair) (W : World) (e : Ending) (w' : World) : Prop := ∃ c v, e = .returned (.tuple #[.pointer (some ⟨c, 0, none⟩), .int .i64 0]) ∧ W.heap.size ≤ c ∧ (∀ b, v.ownBlock = some b → W.heap.size ≤ b) ∧ Ext W w' ∧ CurAt S c s (pathB fr) (restP fr l) w' v
set_option maxRecDepth 100000 in
set_option maxHeartbeats 8000000 in
theorem seek_c (W : World) (s bm : Nat) (room : Int) (S : List Nd5) (fr : ByteArray) (l : List Pair) (hf : fr.size ≤ 100000) (hM : HasM S l) (hs : StoreAt W s bm room S) :
    Calls Tryz.prog 19 #[.pointer (some ⟨s, 0, none⟩), .string (shaB (trieT l).text), .string fr] W (SeekP S s fr l W) := by
  obtain ⟨y, hy1, hy2⟩ := hM.has _ (text_mem (trieT l))
  have hg := (good 12 (rowsL l) (rows_ok (check_ok hM.ok))).1
  have htx : (trieT l).text = nodeB (nodeF (buildT 12) (rowsL l)) := rfl
  obtain ⟨n, hn⟩ : ∃ n, n = nodeF (buildT 12) (rowsL l) := ⟨_, rfl⟩
  obtain ⟨t, ht⟩ : ∃ t, t = (trieT l).text := ⟨_, rfl⟩
  rw [← hn] at hg htx
  rw [← ht] at hy1 hy2 htx ⊢
  have hg1 := hg.one (inlP 12)
  have hsg := fun w (h : StoreAt w s bm room S) => sget_c w s bm room S (shaB t) h
  have hy1 : atL S (shaB t).data.toList = some y := hy1
  rw [hy1] at hsg
  have hye : (some y).map (fun z : Nd5 => z.2.2.text) = some t := by rw [← hy2]; rfl
  simp only [hye] at hsg
  have HSG := Lib.hid hsg
  have HS := Lib.hid hs
  have HG := Lib.hid hg
  have HTX := Lib.hid htx
  have HRF := Lib.hid hg1.refs
  have HKD := Lib.hid hg1.kind
  have HPT := Lib.hid hg1.path
  have HCL := Lib.hid (n.cells_len hg1.refs)
  have HST := Lib.hid (show ∃ N, N ≤ 200 ∧ StackD (HasS S) (pathB fr) (layP (pathB fr) n ⟨#[]⟩).reverse (restP fr l) N by rw [hn]; exact seek_stack hM fr)
  obtain ⟨k, hk⟩ : ∃ k, k = shaB t := ⟨_, rfl⟩
  rw [← hk] at HSG ⊢
  have hps := path_size fr
  clear hM hs hy1 hy2 hg htx hn ht hsg hye hk hg1
  go_enter Tryz.func19, Tryz.ntmps19
  go_wp2_with fail
  refine (HSG.out W HS.out).mono ?_
  rintro e w1 ⟨rfl, hE⟩
  unfold optV
  have HE1 := Lib.hid hE
  clear hE
  go_wp2_with fail
  rw [HTX.out]
  refine (get_c4 (inlP 12) w1 n HG.out).mono ?_
  rintro e w2 ⟨rfl, hE⟩
  rw [← HTX.out]
  have HE2 := Lib.hid (HE1.out.trans hE)
  clear hE HE1
  unfold NodeT.V
  go_wp2_with (refine wpList_new Tryz.allocNode rfl rfl ?_; intro W5 hB5 hE5; refine wpList_fill (vs := n.cells) rfl rfl rfl rfl hB5 (by rw [HCL.out]; rfl) (by rw [HCL.out]; exact Tryz.szNode) n.one ?_; intro W6 hB6 hE6)
  have hX6 : Ext w2 W6 := hE5.trans' hE6 (fun x hx e => by have e : x = w2.heap.size := e; omega)
  refine (path_c W6 fr (by omega)).mono ?_
  rintro e w7 ⟨rfl, hE⟩
  have HE7 := Lib.hid ((HE2.out.trans hX6).trans hE)
  have HB7 := Lib.hid (hB6.keeps hE (fun h => h))
  obtain ⟨pf, hpf⟩ : ∃ pf, pf = pathB fr := ⟨_, rfl⟩
  have HPF := Lib.hid hpf
  rw [← hpf] at HST hps ⊢
  clear hE hX6 hB6 hE6 hE5 hB5 hpf
  go_wp2_with fail
  obtain ⟨W8, hW8⟩ : ∃ W8, W8 = w7.alloc (.cells #[.pointer (some ⟨s, 0, none⟩), .string pf, .slice none 0 0, .int .i64 1] 84) := ⟨_, rfl⟩
  have hb8 : Blk W8 w7.heap.size (.cells #[.pointer (some ⟨s, 0, none⟩), .string pf, .slice none 0 0, .int .i64 ((1 : Nat) : Int)] 84) := by rw [hW8]; exact Blk.new w7 _
  have hE8 : Ext w7 W8 := by rw [hW8]; exact (ExtR w7).alloc _
  have hL8 : LeftAt W8 w7.heap.size s pf (.slice none 0 0) [] ((1 : Nat) : Int) := ⟨hb8, World.ownsRow_nil _ _ _ _, fun e => by cases e⟩
  rw [← hW8]
  have HL8 := Lib.hid hL8
  have HE8 := Lib.hid (HE7.out.trans hE8)
  have HZ7 := Lib.hid HE7.out.size
  have HB8 := Lib.hid (HB7.out.keeps hE8 (fun h => h))
  clear hW8 hb8 hE8 hL8 HB7 HE7
  refine wp_region_mix [0,1,2,3,4] [4] Ext ExtR ExtT (by kernel_rfl) (by kernel_rfl) (by kernel_rfl) ?_
  iterate 1 (refine mix_pure _ rfl (by kernel_rfl) rfl rfl (fun K hK => ?_); go_big_quiet_op; refine hK _ ?_; clear hK K)
  refine mix_any _ (.pointer (some ⟨w7.heap.size, 0, none⟩)) rfl (by kernel_rfl) rfl (fun w1 => by kernel_rfl) ?_
  simp only [Act.put, List.setIfInBounds_toArray, List.set_cons_zero, List.set_cons_succ]
  iterate 1 (refine mix_pure _ rfl (by kernel_rfl) rfl rfl (fun K hK => ?_); go_big_quiet_op; refine hK _ ?_; clear hK K)
  refine mix_load ⟨w2.heap.size, 0, none⟩ n.V rfl (by kernel_rfl) rfl rfl (fun w1 h1 => run_load_api w1 _ n HRF.out (HB8.out.keeps ((drewE _).trans h1) (fun h => h))) ?_
  simp only [Act.put, List.setIfInBounds_toArray, List.set_cons_zero, List.set_cons_succ]
  refine mix_hard _ rfl (by kernel_rfl) rfl (fun w4 he K hK => ?_)
  have HX4 := Lib.hid (show Ext W8 w4 from (drewE _).trans he)
  clear he
  refine wp_callop (exec_call Tryz.enterLay (by kernel_rfl)) ((lay_c w4 w7.heap.size s pf (.slice none 0 0) [] ((1 : Nat) : Int) (HL8.out.ext HX4.out) (by simp) (by omega) n HKD.out HRF.out ⟨#[]⟩ (by have := HPT.out; show 0 + _ ≤ _; omega)).mono ?_)
  rintro e w5 ⟨rfl, v5, hT5⟩
  refine ⟨_, rfl, hK _ _ ?_⟩
  have HT5 := Lib.hid hT5
  clear hK K hT5
  refine mix_end (by kernel_rfl) (fun w6 he => ?_)
  have HT6 := Lib.hid ((LeftTo.ahead HX4.out HT5.out).ext he)
  clear he HT5 HX4
  simp only [Act.put, List.setIfInBounds_toArray, List.set_cons_zero, List.set_cons_succ]
  go_wp2_with fail
  go_ret2
  obtain ⟨N, hN, hst⟩ := HST.out
  rw [List.nil_append] at HT6
  have hT6 := HT6.out
  have hlen := lay_len pf n ⟨#[]⟩
  have hrev : layP pf n ⟨#[]⟩ = (layP pf n ⟨#[]⟩).reverse.reverse := by simp
  rw [hrev] at hT6
  rw [HPF.out] at hst hT6 hlen
  refine ⟨w7.heap.size, v5, rfl, HZ7.out, fun b hb => ?_, HE8.out.trans' hT6.kp (fun x hx e => ?_), _, N, 1, ⟨?_, hst, by omega, by rw [List.length_reverse]; omega⟩⟩
  · rcases hT6.new with h1 | h1
    · rw [h1] at hb; cases hb
    · exact Nat.le_trans HE8.out.size (h1 b hb)
  · rcases e with e | e
    · have := HZ7.out; omega
    · cases e
  · exact hT6.at'
set_option maxRecDepth 100000 in
set_option maxHeartbeats 4000000 in
theorem seek_no (W : World) (s bm : Nat) (room : Int) (S : List Nd5) (root fr : ByteArray) (hs : StoreAt W s bm room S) (hn : atL S root.data.toList = none) :
    Calls Tryz.prog 19 #[.pointer (some ⟨s, 0, none⟩), .string root, .string fr] W fun e w' => e = .returned (.tuple #[.pointer none, .int .i64 4]) ∧ Ext W w' := by
  have hsg := sget_c W s bm room S root hs
  rw [hn] at hsg
  have HSG := Lib.hid hsg
  clear hs hn hsg
  go_enter Tryz.func19, Tryz.ntmps19
  go_wp2_with fail
  refine HSG.out.mono ?_
  rintro e w1 ⟨rfl, hE⟩
  rw [show optV ((none : Option Nd5).map (·.2.2.text)) = .tuple #[.string ⟨#[]⟩, .bool false] from rfl]
  have HE1 := Lib.hid hE
  clear hE
  go_wp2_with fail
  go_ret2
  exact ⟨rfl, HE1.out⟩
end
end Go.Proofs.YtneojlgbcaejmaaGreatDoor
/- Rows of entries of one's own. -/
namespace Go.Proofs.YtneojlgbcaejmaaGreatDoor
section
open Go Go.RowKit
set_option linter.unusedSimpArgs false
set_option linter.unusedVariables false
theorem Tryz.infoEnt : (Tryz.prog.info? 45).map (fun i => (i.zero, i.size, i.bytes)) = some (some (.agg #[.string ⟨#[]⟩, .string ⟨#[]⟩]), 2, 32) := by kernel_rfl
theorem Tryz.uEnts : Tryz.prog.underlying 22 = some (.slice 45) := by kernel_rfl
theorem Tryz.sEnts : SInfo Tryz.prog 22 45 2 32 := SInfo.mk' Tryz.uEnts Tryz.infoEnt rfl (by decide)
abbrev ERow (w0 w : World) (v : Value) (n : Nat) (xs : List Pair) : Prop := ORow 45 2 w0 w v n (cellsP xs)
theorem ERow.rd {w0 w : World} {v : Value} {n : Nat} {xs : List Pair} (h : ERow w0 w v n xs) : RdP w v xs := by
  have hl : xs.length = n := by have := h.len; rw [cellsP_len] at this; omega
  obtain ⟨_, ⟨rfl, h2⟩ | ⟨g, cap, cur, rfl, h3, h4, h5, h6, h7⟩⟩ := h.own
  · exact .inl ⟨none, 0, rfl, List.eq_nil_of_length_eq_zero (by omega)⟩
  · subst hl
    refine .inr ⟨g, 0, cap, rfl, (Array.getElem?_eq_some_iff.1 h4).1, h5, fun j x hx => ?_⟩
    have hj := (List.getElem?_eq_some_iff.1 hx).1
    obtain ⟨e1, e2⟩ := cellsP_get xs j x hx
    exact ⟨by rw [Nat.zero_add, h.own.cellAt (j * 2) (by omega), e1], by rw [Nat.zero_add, h.own.cellAt (j * 2 + 1) (by omega), e2]⟩
end
end Go.Proofs.YtneojlgbcaejmaaGreatDoor
/- cursor: entries from a key on; some, Page. -/
namespace Go.Proofs.YtneojlgbcaejmaaGreatDoor
section
open Go Go.RowKit
set_option linter.unusedSimpArgs false
set_option linter.unusedVariables false
attribute [local go_sem] Oper.semAt_some
/-- The entries from a key on. -/
def fromL (fr : ByteArray) (l : List Pair) : List Pair := l.filter fun p => !lessB p.1 fr
theorem pairs_pathL : ∀ l : List UInt8, pairsL (pathL l) = l
  | [] => rfl
  | b :: l => by
    have h : (b >>> 4) <<< 4 ||| (b &&& 15) = b := by
      have h : ∀ b : Fin 256, ((UInt8.ofNat b.1) >>> 4) <<< 4 ||| ((UInt8.ofNat b.1) &&& 15) = UInt8.ofNat b.1 := by decide +kernel
      have := h ⟨b.toNat, b.toNat_lt⟩
      simpa only [UInt8.ofNat_toNat] using this
    show ((b >>> 4) <<< 4 ||| (b &&& 15)) :: pairsL (pathL l) = _
    rw [h, pairs_pathL l]
theorem pairs_path (k : ByteArray) : pairsB (pathB k) = k := by
  unfold pairsB pathB
  show (⟨(pairsL (pathL k.data.toList)).toArray⟩ : ByteArray) = k
  rw [pairs_pathL]
theorem lt_total : ∀ a b : List UInt8, Lt a b ∨ a = b ∨ Lt b a
  | [], [] => .inr (.inl rfl)
  | [], y :: b => .inl nil_lt
  | x :: a, [] => .inr (.inr nil_lt)
  | x :: a, y :: b => by
    rcases Nat.lt_trichotomy x.toNat y.toNat with h | h | h
    · exact .inl (lt_cons.2 (.inl (UInt8.lt_iff_toNat_lt.2 h)))
    · have e := UInt8.toNat_inj.1 h
      subst e
      rcases lt_total a b with h | h | h
      · exact .inl (lt_cons.2 (.inr ⟨rfl, h⟩))
      · exact .inr (.inl (by rw [h]))
      · exact .inr (.inr (lt_cons.2 (.inr ⟨rfl, h⟩)))
    · exact .inr (.inr (lt_cons.2 (.inl (UInt8.lt_iff_toNat_lt.2 h))))
theorem path_toList (k : ByteArray) : (pathB k).data.toList = pathL k.data.toList := rfl
theorem less_path (a b : ByteArray) : lessB (pathB a) (pathB b) = lessB a b := by
  cases h : lessB a b with
  | true =>
    rw [lessB_iff] at h ⊢
    exact lt_path _ _ h
  | false =>
    rw [Bool.eq_false_iff] at h ⊢
    intro h2
    rw [lessB_iff, path_toList, path_toList] at h2
    rcases lt_total a.data.toList b.data.toList with h3 | h3 | h3
    · exact h ((lessB_iff _ _).2 h3)
    · rw [h3] at h2; exact lt_irrefl _ h2
    · exact lt_irrefl _ (lt_trans' _ _ _ h2 (lt_path _ _ h3))
theorem rest_from (fr : ByteArray) (l : List Pair) : restP fr l = rowsL (fromL fr l) := by
  unfold restP absF rowsL fromL
  induction l with
  | nil => rfl
  | cons p l ih =>
    simp only [List.map_cons, List.filter_cons, nil_app] at ih ⊢
    rw [less_path]
    cases lessB p.1 fr with
    | true => simpa using ih
    | false => simpa using ih
def nextE : List Pair → Value
  | [] => .tuple #[.agg #[.string ⟨#[]⟩, .string ⟨#[]⟩], .bool false]
  | q :: _ => .tuple #[.agg #[.string q.1, .string q.2], .bool true]
def peekE : List Pair → Value
  | [] => .tuple #[.string ⟨#[]⟩, .bool false]
  | q :: _ => .tuple #[.string q.1, .bool true]
theorem nextV_rows (E : List Pair) : nextV (rowsL E) = nextE E := by
  cases E with
  | nil => rfl
  | cons q E => show Value.tuple #[.agg #[.string (pairsB (pathB q.1)), .string q.2], .bool true] = _; rw [pairs_path]; rfl
theorem peekV_rows (E : List Pair) : peekV (rowsL E) = peekE E := by
  cases E with
  | nil => rfl
  | cons q E => show Value.tuple #[.string (pairsB (pathB q.1)), .bool true] = _; rw [pairs_path]; rfl
theorem rowsL_tail (E : List Pair) : (rowsL E).tail = rowsL E.tail := by cases E <;> rfl
/-- A row of entries of one's own, made since W. -/
structure NRow (W w : World) (v : Value) (xs : List Pair) : Prop where
  own : w.ownsRow 0 45 2 v xs.length (cellsP xs)
  new : ∀ b, v.ownBlock = some b → W.heap.size ≤ b
theorem NRow.rd {W w : World} {v : Value} {xs : List Pair} (h : NRow W w v xs) : RdP w v xs := ERow.rd (ORow.any h.own)
theorem NRow.keeps {W w w' : World} {v : Value} {xs : List Pair} {F : BSet} (h : NRow W w v xs) (k : Keeps F w w') (hF : ∀ b, v.ownBlock = some b → ¬ F b) : NRow W w' v xs := ⟨own_keeps h.own k hF, h.new⟩
theorem NRow.ext {W w w' : World} {v : Value} {xs : List Pair} (h : NRow W w v xs) (k : Ext w w') : NRow W w' v xs := h.keeps k (fun _ _ h => h)
/-- A loop's state: a cursor that has told n entries, these in a row. -/
def SoRel (S : List Nd5) (c s : Nat) (fr : ByteArray) (W : World) (v : Value) (E : List Pair) (lim : Nat) (lv : Value) (wr : World) : Prop :=
  ∃ n v', n ≤ lim ∧ n ≤ E.length ∧ NRow W wr lv (E.take n) ∧ (∀ b, lv.ownBlock = some b → v'.ownBlock ≠ some b) ∧ CurTo S c s fr W v wr v' (rowsL (E.drop n))
theorem CurTo.trans {S : List Nd5} {c s : Nat} {fr : ByteArray} {W W' W'' : World} {v v' v'' : Value} {R R' : List Pair} (h : CurTo S c s fr W v W' v' R) (k : CurTo S c s fr W' v' W'' v'' R') : CurTo S c s fr W v W'' v'' R' := by
  obtain ⟨_, _, _, h1, _⟩ := h
  obtain ⟨ts, N, n, k1, k2⟩ := k
  exact ⟨ts, N, n, h1.trans k1, k2⟩
theorem CurTo.refl {S : List Nd5} {c s : Nat} {fr : ByteArray} {W : World} {v : Value} {R : List Pair} (h : CurAt S c s fr R W v) : CurTo S c s fr W v W v R := by
  obtain ⟨ts, N, n, h⟩ := h
  exact ⟨ts, N, n, LeftTo.refl h.left, h⟩
def SomeP (S : List Nd5) (c s : Nat) (fr : ByteArray) (W : World) (v : Value) (E : List Pair) (lim : Nat) (e : Ending) (w' : World) : Prop := ∃ lv v', e = .returned lv ∧ NRow W w' lv (E.take lim) ∧ (∀ b, lv.ownBlock = some b → v'.ownBlock ≠ some b) ∧ CurTo S c s fr W v w' v' (rowsL (E.drop lim))
theorem Tryz.enterNext : ∀ args w, (callFunc 22 args).run Tryz.prog w = .ok (.enter 22 args) w := fun _ _ => by kernel_rfl
set_option maxRecDepth 100000 in
set_option maxHeartbeats 8000000 in
theorem some_c (W : World) (c s bm : Nat) (room : Int) (S : List Nd5) (fr : ByteArray) (E : List Pair) (v : Value) (lim : Nat) (hl : lim ≤ 1000) (hf : fr.size ≤ 1000000) (hC : CurAt S c s fr (rowsL E) W v) (hs : StoreAt W s bm room S) :
    Calls Tryz.prog 37 #[.func (.func 22) #[.pointer (some ⟨c, 0, none⟩)] #[], .int .i64 lim] W (SomeP S c s fr W v E lim) := by
  have HC := Lib.hid hC
  have HS := Lib.hid hs
  have HLT := Lib.hid hC.lt
  clear hC hs
  go_enter Tryz.func37, Tryz.ntmps37
  go_wp2_with fail
  go_loopw [5] (fun lv wr => SoRel S c s fr W v E lim lv wr) (fun lv _ => lim - slN lv)
  case atStart => exact ⟨0, v, by omega, by omega, ⟨World.ownsRow_nil _ _ _ _, fun b hb => by cases hb⟩, (fun b hb => by cases hb), CurTo.refl HC.out⟩
  case round =>
    obtain ⟨n, v', hn1, hn2, hR, hne, hT⟩ := hrel
    have htl : (E.take n).length = n := by rw [List.length_take]; omega
    obtain ⟨ad, cp, hsl⟩ := row_slice hR.own
    rw [htl] at hsl
    subst hsl
    have HR := Lib.hid hR
    have HNE := Lib.hid hne
    have HT := Lib.hid hT
    have HTL := Lib.hid htl
    have HS2 := Lib.hid (HC.out.store HS.out hT.kp.1)
    clear hR hne hT htl
    by_cases hlt : n < lim
    · have b1 : (n : Int) < (lim : Int) := by omega
      go_wp2_with fail
      obtain ⟨D, hD⟩ : ∃ D, D = E.drop n := ⟨_, rfl⟩
      have HD := Lib.hid hD
      have hat := HT.out.at'
      rw [← hD] at hat
      refine (cNext_c wr c s bm room S fr (rowsL D) v' hf hat HS2.out).mono ?_
      rintro e w2 ⟨rfl, v2, hT2⟩
      rw [nextV_rows, rowsL_tail] at *
      have hlt2 := hat.lt
      have hrk := HR.out.own
      have hcW : c < W.heap.size := HLT.out.1
      have hkp := hT2.kp
      have hR2 := HR.out.keeps hkp.1 (fun b hb e => by
        rcases e with e | e
        · have := HR.out.new b hb; omega
        · exact HNE.out b hb e)
      have hN2 : ∀ b, (Value.slice ad n cp).ownBlock = some b → v2.ownBlock ≠ some b := fun b hb e => by
        rcases hkp.2 with h1 | h1
        · exact HNE.out b hb (h1 ▸ e)
        · have := h1 b e
          have := own_lt hrk hb; omega
      have HR2 := Lib.hid hR2
      have HN2 := Lib.hid hN2
      have HT2 := Lib.hid (HT.out.trans hT2)
      clear hat hT2 hlt2 hrk hkp hR2 hN2 hD
      cases D with
      | nil =>
        have hdn : E.length ≤ n := by
          have := congrArg List.length HD.out
          rw [List.length_drop] at this; simp at this; omega
        unfold nextE
        go_wp2_with fail
        go_ret
        have hX := (ExtR w2).alloc (.cells #[.string ⟨#[]⟩, .string ⟨#[]⟩] 45)
        refine ⟨.slice ad n cp, v2, rfl, ?_, HN2.out, ?_⟩
        · rw [List.take_of_length_le (by omega)]
          have := HR2.out.ext hX
          rwa [List.take_of_length_le hdn] at this
        · rw [List.drop_of_length_le (by omega)]
          exact HT2.out.other hX (fun x h => h.elim)
      | cons q D =>
        obtain ⟨x, y⟩ := q
        unfold nextE
        have hm1 : n + 1 ≤ maxLen := by unfold maxLen; omega
        have hm2 : (n + 1) * 32 ≤ 140737488355328 := by omega
        have hown := HR2.out.own
        rw [HTL.out] at hown
        have HOWN := Lib.hid hown
        clear hown
        have hnb : Blk ((w2.alloc (.cells #[.string x, .string y] 45)).alloc (.cells #[.string x, .string y] 45)) (w2.heap.size + 1) (.cells [Value.string x, .string y].toArray 45) := by
          have := Blk.new (w2.alloc (.cells #[.string x, .string y] 45)) (.cells #[.string x, .string y] 45)
          rwa [World.size_alloc] at this
        have hxx : Ext w2 ((w2.alloc (.cells #[.string x, .string y] 45)).alloc (.cells #[.string x, .string y] 45)) := ((ExtR w2).alloc _).alloc _
        go_wp2_with (at_builtin; (refine wpList_app Tryz.sEnts (ORow.any (own_ext HOWN.out hxx)) (.tmp 19) (.tmp 21) rfl rfl rfl (news_blk hnb) (news := [.string x, .string y]) (two_one _ _) rfl rfl hm1 hm2 ?_; intro lv' w' r1 r2 r3))
        have HXX := Lib.hid hxx
        have HR9 := Lib.hid (And.intro r1 (And.intro r2 r3))
        obtain ⟨ad', cp', rfl⟩ := r1.sl
        clear r1 r2 r3 hnb hxx
        go_wp2_with fail
        go_roundw
        case rel =>
          obtain ⟨r1, r2, r3⟩ := HR9.out
          have htk : E.take (n + 1) = E.take n ++ [(x, y)] := by
            have : E[n]? = some (x, y) := by
              have := congrArg (·[0]?) HD.out
              simpa using this.symm
            rw [List.take_add_one, this]; rfl
          have hdr : E.drop (n + 1) = D := by
            have := congrArg List.tail HD.out
            simpa using this.symm
          have hel : n + 1 ≤ E.length := by
            have := congrArg List.length HD.out
            rw [List.length_drop] at this; simp at this; omega
          have hw2 := HT2.out.kp.1.size
          have hv2 := HT2.out.at'.lt
          refine ⟨n + 1, v2, by omega, hel, ⟨?_, fun b hb => ?_⟩, fun b hb e => ?_, ?_⟩
          · have hlen : (E.take (n + 1)).length = n + 1 := by rw [List.length_take]; omega
            rw [hlen, htk, cellsP_append]
            exact r1.own
          · rcases r3 with r3 | r3
            · exact HR2.out.new b (r3 ▸ hb)
            · have := r3 b hb; have := HXX.out.size; omega
          · rcases r3 with r3 | r3
            · exact HN2.out b (r3 ▸ hb) e
            · have := r3 b hb; have := HXX.out.size; have := hv2.2 b e; omega
          · rw [hdr]
            exact (HT2.out.other HXX.out (fun x h => h.elim)).other r2 (fun x e => ⟨HR2.out.new x e, fun e2 => by have := HR2.out.new x e; have := HLT.out.1; omega, HN2.out x e⟩)
        case measure => simp [slN]; omega
    · have b1 : ¬ (n : Int) < (lim : Int) := by omega
      have hnl : n = lim := by omega
      have HNL := Lib.hid hnl
      clear hlt hnl
      go_wp2_with fail
      go_ret
      rw [← HNL.out]
      exact ⟨_, v', rfl, HR.out, HNE.out, HT.out⟩
end
end Go.Proofs.YtneojlgbcaejmaaGreatDoor
/- cursor: Page. -/
namespace Go.Proofs.YtneojlgbcaejmaaGreatDoor
section
open Go Go.RowKit
set_option linter.unusedSimpArgs false
set_option linter.unusedVariables false
attribute [local go_sem] Oper.semAt_some
def keyHd : List Pair → ByteArray
  | [] => ⟨#[]⟩
  | q :: _ => q.1
theorem peekE_eq (E : List Pair) : peekE E = .tuple #[.string (keyHd E), .bool (!E.isEmpty)] := by cases E <;> rfl
/-- A page of E. -/
def PageP (E : List Pair) (limit : Int) (W : World) (e : Ending) (w' : World) : Prop :=
  Ext W w' ∧ if 1 ≤ limit ∧ limit ≤ 8 then ∃ lv, e = .returned (.tuple #[lv, .string (keyHd (E.drop limit.toNat)), .int .i64 0]) ∧ NRow W w' lv (E.take limit.toNat)
    else e = .returned (.tuple #[.slice none 0 0, .string ⟨#[]⟩, .int .i64 1])
theorem SeekP.ext {S : List Nd5} {c s : Nat} {fr : ByteArray} {W w1 w2 : World} {v v2 : Value} {R : List Pair} (h1 : W.heap.size ≤ c) (h2 : ∀ b, v.ownBlock = some b → W.heap.size ≤ b) (h3 : Ext W w1) (h4 : CurTo S c s fr w1 v w2 v2 R) : Ext W w2 := by
  refine h3.trans' h4.kp.1 (fun x hx e => ?_)
  rcases e with e | e
  · omega
  · have := h2 x e; omega
set_option maxRecDepth 100000 in
set_option maxHeartbeats 8000000 in
theorem page_c (W : World) (s bm : Nat) (room : Int) (S : List Nd5) (fr : ByteArray) (l : List Pair) (limit : Int) (hf : fr.size ≤ 100000) (hM : HasM S l) (hs : StoreAt W s bm room S) :
    Calls Tryz.prog 13 #[.pointer (some ⟨s, 0, none⟩), .string (shaB (trieT l).text), .string fr, .int .i64 limit] W (PageP (fromL fr l) limit W) := by
  have HSK := Lib.hid (seek_c W s bm room S fr l hf hM hs)
  have HS := Lib.hid hs
  obtain ⟨k, hk⟩ : ∃ k, k = shaB (trieT l).text := ⟨_, rfl⟩
  rw [← hk] at HSK ⊢
  obtain ⟨E, hE⟩ : ∃ E, E = fromL fr l := ⟨_, rfl⟩
  have HE := Lib.hid hE
  rw [← hE]
  have hps := path_size fr
  clear hM hs hk hE
  go_enter Tryz.func13, Tryz.ntmps13
  go_wp2_with fail
  refine HSK.out.mono ?_
  rintro e w1 ⟨c, v, rfl, hc, hv, hX, hC⟩
  rw [rest_from, ← HE.out] at hC
  have HCC := Lib.hid (And.intro hc hv)
  have HX := Lib.hid hX
  have HC := Lib.hid hC
  clear hc hv hX hC
  by_cases h1 : limit < 1
  · go_wp2_with fail
    go_ret3
    refine ⟨HX.out, ?_⟩
    rw [if_neg (by omega)]; rfl
  · by_cases h2 : 8 < limit
    · go_wp2_with fail
      go_ret3
      refine ⟨HX.out, ?_⟩
      rw [if_neg (by omega)]; rfl
    · obtain ⟨n, rfl⟩ : ∃ n : Nat, limit = (n : Int) := ⟨limit.toNat, by omega⟩
      have HN := Lib.hid (show 1 ≤ n ∧ n ≤ 8 by omega)
      go_wp2_with fail
      refine (some_c w1 c s bm room S (pathB fr) E v n (by have := HN.out; omega) (by omega) HC.out (HS.out.ext HX.out)).mono ?_
      rintro e w2 ⟨lv, v2, rfl, hR, hne, hT⟩
      have HR := Lib.hid hR
      have HNE := Lib.hid hne
      have HT := Lib.hid hT
      clear hR hne hT
      go_wp2_with fail
      refine (cPeek_c w2 c s bm room S (pathB fr) (rowsL (E.drop n)) v2 (by omega) HT.out.at' (HC.out.store (HS.out.ext HX.out) HT.out.kp.1)).mono ?_
      rintro e w3 ⟨rfl, v3, hT3⟩
      rw [peekV_rows, peekE_eq]
      have hcl := HC.out.lt
      have hrl : ∀ b, lv.ownBlock = some b → b < w2.heap.size := fun b hb => own_lt HR.out.own hb
      have hR3 := HR.out.keeps hT3.kp.1 (fun b hb e => by
        rcases e with e | e
        · have := HR.out.new b hb; have := hcl.1; omega
        · exact HNE.out b hb e)
      have HF := Lib.hid (And.intro hR3 (HT.out.trans hT3))
      clear hT3 hcl hrl hR3
      go_wp2_with fail
      go_ret3
      obtain ⟨hR3, hT3⟩ := HF.out
      refine ⟨SeekP.ext HCC.out.1 HCC.out.2 HX.out hT3, ?_⟩
      rw [if_pos (by have := HN.out; omega)]
      exact ⟨lv, rfl, hR3.own, fun b hb => Nat.le_trans HX.out.size (hR3.new b hb)⟩
end
end Go.Proofs.YtneojlgbcaejmaaGreatDoor
/- A range over a method value: as XIter's law, with what is bound ahead of yield. -/
namespace Go.Proofs.YtneojlgbcaejmaaGreatDoor
section
open Go Go.RowKit
set_option linter.unusedSimpArgs false
set_option linter.unusedVariables false
def IterCp (P : Program) (gf : FuncId) (pre lb : Array Value) (N : Nat) (vals : Nat → Array Value) (M : BSet) (S : BSet → World → Prop) (SE : Nat → BSet → World → Prop) : Prop :=
  ∀ (l : Nat) (C : Nat → BSet → World → Prop) (Cx : Nat → BSet → World → Prop), (∀ k, Supp (C k)) → (∀ k, Supp (Cx k)) →
    ∀ D O W, (∀ k D' W', k < N → C k D' W' → Keeps (fun b => D b ∨ M b) W W' → YieldOwes P l (vals k) D' W' (C (k + 1)) (Cx (k + 1))) →
      C 0 D W → S O W → (∀ b, D b → ¬ O b) →
      CallsIn Fence.wide 0 P gf ((pre ++ #[.func (.yield l) #[] #[]]) ++ lb) W (IterPost W M D O N C Cx SE)

set_option maxHeartbeats 1000000 in
/-- THE LAW: 'for .. := range g { body }' in a plain frame. -/
theorem wp_rangeP {P : Program} {g : Operand} {ps : Array Tmp} {assign body : Code} {Q : Exit → Act → World → Prop} {a : Act} {w : World}
    {gf : Nat} {pre lb : Array Value} (hg : a.eval g = .func (.func gf) pre lb) (eg : ∀ args w, (callFunc gf args).run P w = .ok (.enter gf args) w)
    {N : Nat} {vals : Nat → Array Value} {M : BSet} {S : BSet → World → Prop} {SE : Nat → BSet → World → Prop} (IS : IterCp P gf pre lb N vals M S SE)
    (hS : Supp S) (hps : ∀ k, (vals k).size = ps.size)
    (C : Nat → BSet → World → Prop) (Cj : Code → Nat → BSet → World → Prop) (hC : ∀ k, Supp (C k)) (hCj : ∀ c k, Supp (Cj c k))
    (D₀ O₀ : BSet) (h0 : C 0 D₀ w) (hS0 : S O₀ w) (hdis : ∀ b, D₀ b → ¬ O₀ b) (a₁ : Nat → Act)
    (hassign : ∀ (l k : Nat) (W : World) (K : Act → World → Prop), K (a₁ k) W →
      assign.wpIn (Fence.wide.inRound l) 0 P (Exit.then K (fun _ _ _ => False)) { tmps := (ps.zip (vals k)).foldl (fun t (p, v) => t.setIfInBounds p v) a.tmps, defers := [] } W)
    (hbody : ∀ (l k : Nat) (D : BSet) (W : World), k < N → C k D W → Keeps (fun b => D₀ b ∨ M b) w W → body.wpIn (Fence.wide.inRound l) 0 P (RoundQ D W (C (k + 1)) (fun c => Cj c (k + 1))) (a₁ k) W)
    (hdone : ∀ (D O : BSet) (W : World), Keeps (fun b => D₀ b ∨ M b) w W → C N D W → SE N O W → (∀ b, D b → ¬ O b) → (∀ b, D b → D₀ b ∨ w.heap.size ≤ b) → (∀ b, O b → O₀ b ∨ w.heap.size ≤ b) →
      Blk W w.heap.size (.deferred (some [])) → ¬ D w.heap.size → ¬ O w.heap.size →
      Q .normal { a with defers := { target := .collected w.heap.size, args := #[] } :: a.defers } W)
    (hstop : ∀ (c : Code) (k : Nat) (D O : BSet) (W : World), k ≤ N → 0 < k → Keeps (fun b => D₀ b ∨ M b) w W → Cj c k D W → SE k O W → (∀ b, D b → ¬ O b) → (∀ b, D b → D₀ b ∨ w.heap.size ≤ b) → (∀ b, O b → O₀ b ∨ w.heap.size ≤ b) →
      Blk W w.heap.size (.deferred (some [])) → ¬ D w.heap.size → ¬ O w.heap.size →
      c.wpIn Fence.wide 0 P Q { a with defers := { target := .collected w.heap.size, args := #[] } :: a.defers } W)
    (hSE : ∀ k, Supp (SE k)) :
    (Code.rangeFunc g ps assign body).wpIn Fence.wide 0 P Q a w := by
  refine wpIn_rangeFunc ?_
  intro fn _
  show ∃ l mark w₁ d w₁' f args w₂, (Instr.enterLoop fn a.tmps ps assign body none).run P w = _ ∧ _
  obtain ⟨rec, hrec⟩ : ∃ rec : LoopState → Option Code → Loop, rec = fun st pe => { state := st, pending := pe, fn, tmps := a.tmps, params := ps, assign, body, defers := w.heap.size } := ⟨_, rfl⟩
  obtain ⟨W1, hW1⟩ : ∃ W1, (w.alloc (.deferred (some []))).alloc (.loop (rec .ready none)) = W1 := ⟨_, rfl⟩
  have hL1 : Blk W1 (w.heap.size + 1) (.loop (rec .ready none)) := by
    rw [← hW1]; have := Blk.new (w.alloc (.deferred (some []))) (.loop (rec .ready none)); rwa [World.size_alloc] at this
  have hK1 : Blk W1 w.heap.size (.deferred (some [])) := by
    rw [← hW1]; exact (Blk.new w _).alloc _
  have hX1 : Ext w W1 := by rw [← hW1]; exact ((Keeps.refl _ w).alloc _).alloc _
  have hs1 : W1.heap.size = w.heap.size + 2 := by rw [← hW1]; simp
  have hD0 : ∀ b, D₀ b → b < w.heap.size := (hC 0).lt _ _ h0
  have hO0 : ∀ b, O₀ b → b < w.heap.size := hS.lt _ _ hS0
  refine ⟨w.heap.size + 1, [{ target := .collected w.heap.size, args := #[] }], W1, { target := .fn (.func gf) lb, args := pre ++ #[.func (.yield (w.heap.size + 1)) #[] #[]] }, W1, gf,
    (pre ++ #[.func (.yield (w.heap.size + 1)) #[] #[]]) ++ lb, W1, ?_, ?_, ?_, ?_, fun h => by simp [Fence.wide] at h, ?_⟩
  · rw [← hW1, hrec]; exact run_enterLoop_outer _ _ _ _ _
  · simp only [resolve, hg]
    simp [go_sem]
  · intro f' _; trivial
  · simp [invoke, go_sem, eg]
  · -- the consumer's invariant with the two blocks of book-keeping
    let CC : Nat → BSet → World → Prop := fun k D W => ∃ D' : BSet, C k D' W ∧ (∀ b, D b ↔ D' b ∨ b = w.heap.size + 1 ∨ b = w.heap.size) ∧ ¬ D' (w.heap.size + 1) ∧ ¬ D' w.heap.size ∧
      Blk W (w.heap.size + 1) (.loop (rec .ready none)) ∧ Blk W w.heap.size (.deferred (some []))
    let CX : Nat → BSet → World → Prop := fun k D W => ∃ (c : Code) (D' : BSet), Cj c k D' W ∧ (∀ b, D b ↔ D' b ∨ b = w.heap.size + 1 ∨ b = w.heap.size) ∧ ¬ D' (w.heap.size + 1) ∧ ¬ D' w.heap.size ∧
      Blk W (w.heap.size + 1) (.loop (rec .done (some c))) ∧ Blk W w.heap.size (.deferred (some []))
    have sCC : ∀ k, Supp (CC k) := fun k => ⟨fun D W ⟨D', h1, h2, _, _, h3, h4⟩ b hb => by
        rcases (h2 b).1 hb with h | rfl | rfl
        · exact (hC k).lt _ _ h1 b h
        · exact h3.lt
        · exact h4.lt,
      fun D W W' ⟨D', h1, h2, h5, h6, h3, h4⟩ hs hb => ⟨D', (hC k).st _ _ _ h1 hs (fun b h => hb b ((h2 b).2 (.inl h))), h2, h5, h6,
        (hb _ ((h2 _).2 (.inr (.inl rfl)))).trans h3, (hb _ ((h2 _).2 (.inr (.inr rfl)))).trans h4⟩⟩
    have sCX : ∀ k, Supp (CX k) := fun k => ⟨fun D W ⟨c, D', h1, h2, _, _, h3, h4⟩ b hb => by
        rcases (h2 b).1 hb with h | rfl | rfl
        · exact (hCj c k).lt _ _ h1 b h
        · exact h3.lt
        · exact h4.lt,
      fun D W W' ⟨c, D', h1, h2, h5, h6, h3, h4⟩ hs hb => ⟨c, D', (hCj c k).st _ _ _ h1 hs (fun b h => hb b ((h2 b).2 (.inl h))), h2, h5, h6,
        (hb _ ((h2 _).2 (.inr (.inl rfl)))).trans h3, (hb _ ((h2 _).2 (.inr (.inr rfl)))).trans h4⟩⟩
    have key := IS (w.heap.size + 1) CC CX sCC sCX (fun b => D₀ b ∨ b = w.heap.size + 1 ∨ b = w.heap.size) O₀ W1 ?_
      ⟨D₀, (hC 0).keeps h0 hX1 (fun _ _ h => h), fun _ => Iff.rfl, fun h => by have := hD0 _ h; omega, fun h => by have := hD0 _ h; omega, hL1, hK1⟩
      (hS.keeps hS0 hX1 (fun _ _ h => h)) (fun b hb ho => by
        have := hO0 b ho
        rcases hb with h | rfl | rfl
        · exact hdis b h ho
        · omega
        · omega)
    · refine CallsIn.mono key ?_
      rintro e W' ⟨⟨v, rfl⟩, D', O', hk, hD', hO', hdis', hcase⟩
      have hkw : Keeps (fun b => D₀ b ∨ M b) w W' := (hX1.mono (fun _ _ h => h.elim)).trans' hk (fun x hx h => by
          rcases h with (h | rfl | rfl) | h
          · exact .inl h
          · omega
          · omega
          · exact .inr h)
      have hOo : ∀ b, O' b → O₀ b ∨ w.heap.size ≤ b := fun b hb => (hO' b hb).imp id (fun h => by omega)
      rcases hcase with ⟨⟨D'', h1, h2, h5, h6, h3, h4⟩, hse⟩ | ⟨k, hk1, hk2, ⟨c, D'', h1, h2, h5, h6, h3, h4⟩, hse⟩
      · have hO1 : ¬ O' (w.heap.size + 1) := hdis' _ ((h2 _).2 (.inr (.inl rfl)))
        have hO2 : ¬ O' w.heap.size := hdis' _ ((h2 _).2 (.inr (.inr rfl)))
        obtain ⟨ox, he⟩ : ∃ ox, (Instr.endLoop (w.heap.size + 1)).run P W' = .ok none (W'.putObj (w.heap.size + 1) ox) := ⟨_, (run_endLoop (r := rec .ready none) h3 (by rw [hrec]; simp)).trans (by rw [hrec])⟩
        have hkl := Keeps.onePut W' (w.heap.size + 1) ox
        refine ⟨none, _, he, ?_⟩
        refine hdone D'' O' _ (hkw.trans' hkl (fun x hx e => by omega)) ((hC N).keeps h1 hkl (fun b hb e => h5 (e ▸ hb))) ((hSE N).keeps hse hkl (fun b hb e => hO1 (e ▸ hb)))
          (fun b hb ho => hdis' b ((h2 b).2 (.inl hb)) ho) (fun b hb => ?_) hOo (h4.put_other (by omega) _) h6 hO2
        rcases hD' b ((h2 b).2 (.inl hb)) with (h | rfl | rfl) | h
        · exact .inl h
        · exact absurd hb h5
        · exact absurd hb h6
        · exact .inr (by omega)
      · have hO1 : ¬ O' (w.heap.size + 1) := hdis' _ ((h2 _).2 (.inr (.inl rfl)))
        have hO2 : ¬ O' w.heap.size := hdis' _ ((h2 _).2 (.inr (.inr rfl)))
        obtain ⟨ox, he⟩ : ∃ ox, (Instr.endLoop (w.heap.size + 1)).run P W' = .ok (some c) (W'.putObj (w.heap.size + 1) ox) := ⟨_, (run_endLoop (r := rec .done (some c)) h3 (by rw [hrec]; simp)).trans (by rw [hrec])⟩
        have hkl := Keeps.onePut W' (w.heap.size + 1) ox
        refine ⟨some c, _, he, ?_⟩
        refine hstop c k D'' O' _ hk1 hk2 (hkw.trans' hkl (fun x hx e => by omega)) ((hCj c k).keeps h1 hkl (fun b hb e => h5 (e ▸ hb))) ((hSE k).keeps hse hkl (fun b hb e => hO1 (e ▸ hb)))
          (fun b hb ho => hdis' b ((h2 b).2 (.inl hb)) ho) (fun b hb => ?_) hOo (h4.put_other (by omega) _) h6 hO2
        rcases hD' b ((h2 b).2 (.inl hb)) with (h | rfl | rfl) | h
        · exact .inl h
        · exact absurd hb h5
        · exact absurd hb h6
        · exact .inr (by omega)
    · rintro k D W hk ⟨D', h1, h2, h5, h6, h3, h4⟩ hkk
      have hkw : Keeps (fun b => D₀ b ∨ M b) w W := (hX1.mono (fun _ _ h => h.elim)).trans' hkk (fun x hx h => by
          rcases h with (h | rfl | rfl) | h
          · exact .inl h
          · omega
          · omega
          · exact .inr h)
      have hD1 : D (w.heap.size + 1) := (h2 _).2 (.inr (.inl rfl))
      refine ⟨_, _, _, _, run_yield h3 (by rw [hrec]; exact hps k), ?_⟩
      refine roundIn_of_wpIn trivial ?_
      rw [show (rec .ready none).tmps = a.tmps from by rw [hrec], show (rec .ready none).params = ps from by rw [hrec], show (rec .ready none).assign = assign from by rw [hrec], show (rec .ready none).body = body from by rw [hrec]]
      refine hassign _ k W _ ?_
      refine ⟨_, run_beginRound h3 (by rw [hrec]), ?_⟩
      have hkb : Keeps (fun b => b = w.heap.size + 1) W (W.putObj (w.heap.size + 1) (.loop { rec .ready none with state := .busy })) := Keeps.onePut _ _ _
      have hsz : w.heap.size ≤ W.heap.size := by have := h4.lt; omega
      refine Code.wpIn_mono ?_ (hbody (w.heap.size + 1) k D' _ hk ((hC k).keeps h1 hkb (fun b hb e => h5 (e ▸ hb))) (hkw.trans' hkb (fun x hx e => by omega)))
      have fin : ∀ (j : Option Code) (D'' : BSet) (W' : World), Keeps D' (W.putObj (w.heap.size + 1) (.loop { rec .ready none with state := .busy })) W' →
          (∀ b, D'' b → D' b ∨ (W.putObj (w.heap.size + 1) (.loop { rec .ready none with state := .busy })).heap.size ≤ b) →
          (Instr.endRound (w.heap.size + 1) j).run P W' = .ok (.bool j.isNone) (W'.putObj (w.heap.size + 1) (.loop (rec (if j.isNone then .ready else .done) j))) ∧
          Keeps D W (W'.putObj (w.heap.size + 1) (.loop (rec (if j.isNone then .ready else .done) j))) ∧
          Keeps (fun b => b = w.heap.size + 1) W' (W'.putObj (w.heap.size + 1) (.loop (rec (if j.isNone then .ready else .done) j))) ∧
          (∀ b, (D'' b ∨ b = w.heap.size + 1 ∨ b = w.heap.size) → D b ∨ W.heap.size ≤ b) ∧ ¬ D'' (w.heap.size + 1) ∧ ¬ D'' w.heap.size ∧
          Blk (W'.putObj (w.heap.size + 1) (.loop (rec (if j.isNone then .ready else .done) j))) (w.heap.size + 1) (.loop (rec (if j.isNone then .ready else .done) j)) ∧
          Blk (W'.putObj (w.heap.size + 1) (.loop (rec (if j.isNone then .ready else .done) j))) w.heap.size (.deferred (some [])) := by
        intro j D'' W' hK hD''
        have hl : Blk W' (w.heap.size + 1) (.loop { rec .ready none with state := .busy }) := (h3.put_same _).keeps hK h5
        have hd : Blk W' w.heap.size (.deferred (some [])) := (h4.put_other (by omega) _).keeps hK h6
        have hke : Keeps (fun b => b = w.heap.size + 1) W' (W'.putObj (w.heap.size + 1) (.loop (rec (if j.isNone then .ready else .done) j))) := Keeps.onePut _ _ _
        rw [World.putObj_size] at hD''
        have hlt3 := h3.lt
        have hlt4 := h4.lt
        refine ⟨?_, ?_, hke, ?_, ?_, ?_, ?_, ?_⟩
        · rw [run_endRound j hl, hrec]
        · exact ((hkb.mono (fun x _ e => e ▸ hD1)).trans' hK (fun x hx h => (h2 x).2 (.inl h))).trans' hke (fun x hx e => e ▸ hD1)
        · rintro b (h | rfl | rfl)
          · exact (hD'' b h).imp (fun h => (h2 b).2 (.inl h)) id
          · exact .inl hD1
          · exact .inl ((h2 _).2 (.inr (.inr rfl)))
        · intro h; rcases hD'' _ h with h | h
          · exact h5 h
          · omega
        · intro h; rcases hD'' _ h with h | h
          · exact h6 h
          · omega
        · exact hl.put_same _
        · exact hd.put_other (by omega) _
      intro e a' W' hq
      cases e with
      | normal =>
        obtain ⟨D'', hK, hD'', hc⟩ := hq
        obtain ⟨f1, f2, f3, f4, f5, f6, f7, f8⟩ := fin none D'' W' hK hD''
        exact ⟨_, _, f1, fun b => D'' b ∨ b = w.heap.size + 1 ∨ b = w.heap.size, f2, f4, .inl ⟨rfl, D'', (hC _).keeps hc f3 (fun b hb e => f5 (e ▸ hb)), fun _ => Iff.rfl, f5, f6, f7, f8⟩⟩
      | ret =>
        obtain ⟨D'', hK, hD'', hc⟩ := hq
        obtain ⟨f1, f2, f3, f4, f5, f6, f7, f8⟩ := fin (some .ret) D'' W' hK hD''
        exact ⟨_, _, f1, fun b => D'' b ∨ b = w.heap.size + 1 ∨ b = w.heap.size, f2, f4, .inr ⟨rfl, .ret, D'', (hCj _ _).keeps hc f3 (fun b hb e => f5 (e ▸ hb)), fun _ => Iff.rfl, f5, f6, f7, f8⟩⟩
      | exit i =>
        obtain ⟨D'', hK, hD'', hc⟩ := hq
        obtain ⟨f1, f2, f3, f4, f5, f6, f7, f8⟩ := fin (some (.exit i)) D'' W' hK hD''
        exact ⟨_, _, f1, fun b => D'' b ∨ b = w.heap.size + 1 ∨ b = w.heap.size, f2, f4, .inr ⟨rfl, .exit i, D'', (hCj _ _).keeps hc f3 (fun b hb e => f5 (e ▸ hb)), fun _ => Iff.rfl, f5, f6, f7, f8⟩⟩
      | goto t => exact hq.elim
      | panic ch => exact hq.elim
      | outgrown => exact hq.elim
end
end Go.Proofs.YtneojlgbcaejmaaGreatDoor
/- cursor: each, as an iterator. -/
namespace Go.Proofs.YtneojlgbcaejmaaGreatDoor
section
open Go Go.RowKit
set_option linter.unusedSimpArgs false
set_option linter.unusedVariables false
attribute [local go_sem] Oper.semAt_some
/-- What a store is rests on its blocks alone. -/
theorem StoreAt.heap {W0 W : World} {s bm : Nat} {room : Int} {S : List Nd5} (h : StoreAt W0 s bm room S) (hz : W0.heap.size ≤ W.heap.size) (hb : ∀ b, b < W0.heap.size → W.heap[b]? = W0.heap[b]?) : StoreAt W s bm room S := by
  have h1 : StoreAt { W with heap := W0.heap } s bm room S := ⟨h.st, ⟨h.mp.mp, h.mp.blks, fun x hx => ⟨(h.mp.items x hx).cells⟩⟩⟩
  exact h1.ext ⟨rfl, rfl, rfl, hz, fun b hl _ => hb b hl⟩
theorem LeftAt.heap {W W' : World} {c s : Nat} {fr : ByteArray} {v : Value} {ps : List Pl5} {lk : Int} (h : LeftAt W c s fr v ps lk) (hz : W.heap.size ≤ W'.heap.size) (hb : ∀ b, b = c ∨ v.ownBlock = some b → W'.heap[b]? = W.heap[b]?) : LeftAt W' c s fr v ps lk := by
  have h1 : LeftAt { W' with heap := W.heap } c s fr v ps lk := ⟨h.cur, h.row, h.ne⟩
  exact h1.keeps (F := fun b => ¬ (b = c ∨ v.ownBlock = some b)) ⟨rfl, rfl, rfl, hz, fun b _ hn => hb b (Classical.not_not.1 hn)⟩ (fun e => e (.inl rfl)) (fun b hb e => e (.inr hb))
theorem CurAt.heap {S : List Nd5} {W W' : World} {c s : Nat} {fr : ByteArray} {v : Value} {R : List Pair} (h : CurAt S c s fr R W v) (hz : W.heap.size ≤ W'.heap.size) (hb : ∀ b, b = c ∨ v.ownBlock = some b → W'.heap[b]? = W.heap[b]?) : CurAt S c s fr R W' v := by
  obtain ⟨ts, N, n, h⟩ := h
  exact ⟨ts, N, n, ⟨h.left.heap hz hb, h.stk, h.look, h.len⟩⟩
structure EaS (W0 : World) (S : List Nd5) (c s : Nat) (fr : ByteArray) (E : List Pair) (v : Value) (O : BSet) (W : World) : Prop where
  is : ∀ b, O b ↔ b < W0.heap.size ∨ b = c ∨ v.ownBlock = some b
  size : W0.heap.size ≤ W.heap.size
  old : ∀ b, b < W0.heap.size → W.heap[b]? = W0.heap[b]?
  cur : CurAt S c s fr (rowsL E) W v
theorem EaS.supp (W0 : World) (S : List Nd5) (c s : Nat) (fr : ByteArray) (E : List Pair) (v : Value) : Supp (EaS W0 S c s fr E v) := by
  refine ⟨fun D W h b hb => ?_, fun D W W' h hz hb => ⟨h.is, Nat.le_trans h.size hz, fun b hl => (hb b ((h.is b).2 (.inl hl))).trans (h.old b hl), h.cur.heap hz fun b hc => hb b ((h.is b).2 (.inr hc))⟩⟩
  rcases (h.is b).1 hb with h1 | rfl | h1
  · exact Nat.lt_of_lt_of_le h1 h.size
  · exact h.cur.lt.1
  · exact h.cur.lt.2 b h1
def EaE (_ : Nat) (O : BSet) (W : World) : Prop := ∀ b, O b → b < W.heap.size
theorem EaE.supp (k : Nat) : Supp (EaE k) := ⟨fun D W h b hb => h b hb, fun D W W' h hz _ b hb => Nat.lt_of_lt_of_le (h b hb) hz⟩
def atE (E : List Pair) (k : Nat) : Pair := E.getD k pd
def isE (E : List Pair) (k : Nat) : Bool := decide (k < E.length)
def eaV (E : List Pair) (k : Nat) : Array Value := #[.string (atE E k).1, .string (atE E k).2]
structure EaRel (W : World) (S : List Nd5) (c s : Nat) (fr : ByteArray) (E : List Pair) (v : Value) (C : Nat → BSet → World → Prop) (D : BSet) (k g : Nat) (Dk : BSet) (v' : Value) (wr : World) : Prop where
  le : k ≤ E.length
  at' : C k Dk wr
  sub : ∀ b, Dk b → D b ∨ W.heap.size ≤ b
  kp : Keeps (fun b => D b ∨ b = c ∨ v.ownBlock = some b) W wr
  cur : CurAt S c s fr (rowsL (E.drop (k + 1))) wr v'
  row : v'.ownBlock = v.ownBlock ∨ ∀ b, v'.ownBlock = some b → W.heap.size ≤ b
  var : Blk wr g (.cells #[.string (atE E k).1, .string (atE E k).2] 45)
  vnew : W.heap.size ≤ g
  n1 : ¬ Dk g
  n2 : ¬ Dk c
  n3 : ∀ b, v'.ownBlock = some b → ¬ Dk b
  n4 : v'.ownBlock ≠ some g
/-- With m entries left. -/
def EaI (W : World) (S : List Nd5) (c s : Nat) (fr : ByteArray) (E : List Pair) (v : Value) (C : Nat → BSet → World → Prop) (D : BSet) (gv bv : Value) (wr : World) (m : Nat) : Prop :=
  ∃ k g Dk v', k + m = E.length ∧ gv = .pointer (some ⟨g, 0, none⟩) ∧ bv = .bool (isE E k) ∧ EaRel W S c s fr E v C D k g Dk v' wr
def EaRelP (W : World) (S : List Nd5) (c s : Nat) (fr : ByteArray) (E : List Pair) (v : Value) (C : Nat → BSet → World → Prop) (D : BSet) (gv bv : Value) (wr : World) : Prop := ∃ m, EaI W S c s fr E v C D gv bv wr m
theorem exists_least {p : Nat → Prop} (h : ∃ m, p m) : ∃ m, p m ∧ ∀ k, p k → m ≤ k := by
  obtain ⟨m, hm⟩ := h
  induction m using Nat.strongRecOn with
  | ind m ih =>
    by_cases hx : ∃ k, k < m ∧ p k
    · obtain ⟨k, hk, hp⟩ := hx
      exact ih k hk hp
    · exact ⟨m, hm, fun k hk => Nat.le_of_not_lt fun hl => hx ⟨k, hl, hk⟩⟩
open Classical in
noncomputable def least (p : Nat → Prop) : Nat := if h : ∃ m, p m then (exists_least h).choose else 0
theorem least_spec {p : Nat → Prop} (h : ∃ m, p m) : p (least p) ∧ ∀ k, p k → least p ≤ k := by
  unfold least; rw [dif_pos h]; exact (exists_least h).choose_spec
theorem nextE_at (E : List Pair) (k : Nat) : nextE (E.drop k) = .tuple #[.agg #[.string (atE E k).1, .string (atE E k).2], .bool (isE E k)] := by
  unfold atE isE
  by_cases h : k < E.length
  · have e : E.drop k = E[k] :: E.drop (k + 1) := List.drop_eq_getElem_cons h
    rw [e, decide_eq_true h, List.getD_eq_getElem?_getD, List.getElem?_eq_getElem h]; rfl
  · rw [List.drop_of_length_le (by omega), decide_eq_false h, List.getD_eq_getElem?_getD, List.getElem?_eq_none (by omega)]; rfl
set_option maxRecDepth 100000 in
set_option maxHeartbeats 8000000 in
theorem cEach_it (W0 : World) (c s bm : Nat) (room : Int) (S : List Nd5) (hs0 : StoreAt W0 s bm room S) (fr : ByteArray) (E : List Pair) (v : Value) (hf : fr.size ≤ 1000000) (hE : E.length ≤ 1000) (hc : W0.heap.size ≤ c) (hv : ∀ b, v.ownBlock = some b → W0.heap.size ≤ b) :
    IterCp Tryz.prog 38 #[.pointer (some ⟨c, 0, none⟩)] #[] E.length (eaV E) (fun b => b = c ∨ v.ownBlock = some b) (EaS W0 S c s fr E v) EaE := by
  intro y C Cx hC hCx D O W hY h0 hS hdis
  have HST := Lib.hid (show ∀ w, Keeps (fun b => D b ∨ b = c ∨ v.ownBlock = some b) W w → StoreAt w s bm room S from fun w k => hs0.heap (Nat.le_trans hS.size k.size) fun b hb => (k.block b (Nat.lt_of_lt_of_le hb hS.size) (fun e => by
    rcases e with e | e | e
    · exact hdis b e ((hS.is b).2 (.inl hb))
    · omega
    · have := hv b e; omega)).trans (hS.old b hb))
  have HY := Lib.hid hY
  have HC := Lib.hid hC
  have HCX := Lib.hid hCx
  have H0 := Lib.hid h0
  have HS := Lib.hid hS
  have HD := Lib.hid hdis
  have hnx := cNext_c W c s bm room S fr (rowsL E) v hf hS.cur (HST.out W (Keeps.refl _ W))
  rw [nextV_rows, rowsL_tail, show nextE E = _ from nextE_at E 0] at hnx
  have HNX := Lib.hid hnx
  clear hY hC hCx h0 hS hdis hnx
  refine callsIn_of_wp Tryz.func38 rfl trivial ?_ rfl
  simp only [Tryz.ntmps38, List.size_toArray, List.length_cons, List.length_nil, Nat.reduceAdd, Nat.reduceSub, Array.replicate_succ, Array.replicate_zero, List.push_toArray, List.append_toArray, List.nil_append, List.cons_append]
  gi_wp2_with fail
  refine ⟨trivial, rfl, CallsIn.mono (callsIn_wide.2 HNX.out) ?_⟩
  rintro e w1 ⟨rfl, v1, hT1⟩
  have HT1 := Lib.hid hT1
  clear hT1
  gi_wp2_with fail
  have hX : Ext w1 (w1.alloc (.cells #[.string (atE E 0).1, .string (atE E 0).2] 45)) := (ExtR w1).alloc _
  have hB : Blk (w1.alloc (.cells #[.string (atE E 0).1, .string (atE E 0).2] 45)) w1.heap.size (.cells #[.string (atE E 0).1, .string (atE E 0).2] 45) := Blk.new w1 _
  obtain ⟨w2, hw2⟩ : ∃ w2, w2 = w1.alloc (.cells #[.string (atE E 0).1, .string (atE E 0).2] 45) := ⟨_, rfl⟩
  rw [← hw2] at hX hB ⊢
  have HX := Lib.hid hX
  have HB := Lib.hid hB
  clear hX hB hw2
  gi_loopw [4, 5] (fun gv bv wr => EaRelP W S c s fr E v C D gv bv wr) (fun gv bv wr => least (EaI W S c s fr E v C D gv bv wr))
  case atStart =>
    have hT := HT1.out
    have hkp := hT.kp
    have hDlt := (HC.out 0).lt _ _ H0.out
    have hDO : ∀ b, D b → ¬ (b = c ∨ v.ownBlock = some b) := fun b hb e => HD.out b hb ((HS.out.is b).2 (.inr e))
    have hsz := hkp.1.size
    refine ⟨E.length, 0, w1.heap.size, D, v1, by omega, rfl, rfl, ⟨by omega, (HC.out 0).keeps ((HC.out 0).keeps H0.out hkp.1 hDO) HX.out (fun _ _ h => h), fun b hb => .inl hb, (hkp.1.mono (fun b _ h => .inr h)).trans' HX.out (fun _ _ h => h.elim), ?_, hkp.2, HB.out, hsz, fun h => by have := hDlt _ h; omega, fun h => hDO c h (.inl rfl), fun b hb h => ?_, fun e => ?_⟩⟩
    · have : E.tail = E.drop (0 + 1) := by cases E <;> rfl
      rw [← this]
      exact hT.at'.ext HX.out
    · rcases hkp.2 with h1 | h1
      · exact hDO b h (.inr (h1 ▸ hb))
      · have := h1 b hb; have := hDlt b h; omega
    · have := hT.at'.lt.2 _ e; omega
  case round =>
    obtain ⟨hI, hmin⟩ := least_spec hrel
    obtain ⟨m, hm⟩ : ∃ m, m = least (EaI W S c s fr E v C D u4 u5 wr) := ⟨_, rfl⟩
    rw [← hm] at hI hmin
    obtain ⟨k, g, Dk, v', hkm, rfl, rfl, hR⟩ := hI
    have HR := Lib.hid hR
    have HM := Lib.hid (And.intro hm (And.intro hmin hkm))
    clear hm hmin hkm hrel
    cases hb : isE E k with
    | false =>
      have hke : k = E.length := by
        have h1 := hR.le
        have : ¬ k < E.length := fun h => by unfold isE at hb; rw [decide_eq_true h] at hb; cases hb
        omega
      have HF : Hid (IterPost W (fun b => b = c ∨ v.ownBlock = some b) D O E.length C Cx EaE (.returned (.tuple #[])) wr) := Lib.hid ⟨⟨_, rfl⟩, Dk, fun _ => False, hR.kp, hR.sub, fun b h => h.elim, fun b _ h => h, .inl ⟨hke ▸ hR.at', fun b h => h.elim⟩⟩
      clear hR hb hke
      gi_wp2
      refine bodyPost_end (results_none rfl _ _ _) rfl ?_
      exact HF.out
    | true =>
      have hlt : k < E.length := by unfold isE at hb; exact of_decide_eq_true hb
      have HLT := Lib.hid hlt
      have HBK := Lib.hid hb
      have q0 := hR.var.cell (i := 0) (v := .string (atE E k).1) (by rfl)
      have q1 := hR.var.cell (i := 1) (v := .string (atE E k).2) (by rfl)
      obtain ⟨x, hx⟩ : ∃ x, x = (atE E k).1 := ⟨_, rfl⟩
      obtain ⟨z, hz⟩ : ∃ z, z = (atE E k).2 := ⟨_, rfl⟩
      obtain ⟨fn, tm, asg, bd, hyr, hrd⟩ := HY.out k Dk wr hlt hR.at' hR.kp
      unfold eaV at hyr
      have HV := Lib.hid (show Blk wr g (.cells #[.string x, .string z] 45) by rw [hx, hz]; exact hR.var)
      rw [← hx] at q0 hyr
      rw [← hz] at q1 hyr
      have HRD := Lib.hid hrd
      clear hR hb hrd hlt hx hz
      gi_wp2_with fail
      refine ⟨rfl, HRD.out.mono ?_⟩
      rintro e w5 ⟨D5, k5, s5, hcase⟩
      have HK5 := Lib.hid (And.intro k5 s5)
      have hv5 := HV.out.keeps k5 HR.out.n1
      have HV5 := Lib.hid hv5
      rcases hcase with ⟨rfl, C5⟩ | ⟨rfl, C5⟩
      · have q0 := hv5.cell (i := 0) (v := .string x) (by rfl)
        have q1 := hv5.cell (i := 1) (v := .string z) (by rfl)
        have HC5 := Lib.hid C5
        clear C5 k5 s5 hv5
        gi_wp2_with fail
        have hgl := HR.out.var.lt
        have hcl := HR.out.cur.lt
        have hz5 := HK5.out.1.size
        have hx6 : Ext w5 (w5.alloc (.cells #[.string x, .string z] 45)) := (ExtR w5).alloc _
        have hcur := ((HR.out.cur.keeps HK5.out.1 HR.out.n2 HR.out.n3).ext hx6)
        have hkp6 : Keeps (fun b => D b ∨ b = c ∨ v.ownBlock = some b) W (w5.alloc (.cells #[.string x, .string z] 45)) := (HR.out.kp.trans' HK5.out.1 (fun b hb h => by
          rcases HR.out.sub b h with h | h
          · exact .inl h
          · omega)).trans' hx6 (fun _ _ h => h.elim)
        have hb6 : Blk (w5.alloc (.cells #[.string x, .string z] 45)) w5.heap.size (.cells #[.string x, .string z] 45) := Blk.new w5 _
        refine ⟨trivial, rfl, CallsIn.mono (callsIn_wide.2 (cNext_c _ c s bm room S fr (rowsL (E.drop (k + 1))) v' hf hcur (HST.out _ hkp6))) ?_⟩
        rintro e w7 ⟨rfl, v7, hT7⟩
        rw [nextV_rows, nextE_at]
        rw [rowsL_tail, List.tail_drop] at hT7
        have hkp7 := hT7.kp
        have hb7 := hb6.keeps hkp7.1 (fun e => by
          rcases e with e | e
          · omega
          · have := hcl.2 _ e; omega)
        have p0 := hb7.cell (i := 0) (v := .string x) (by rfl)
        have p1 := hb7.cell (i := 1) (v := .string z) (by rfl)
        have f0 : w7.frozen? ⟨w5.heap.size, 0, none⟩ = false := hb7.frozen
        have f1 : w7.frozen? ⟨w5.heap.size, 1, none⟩ = false := hb7.frozen
        have HT7 := Lib.hid hT7
        have HB7 := Lib.hid hb7
        have HKP6 := Lib.hid hkp6
        clear hgl hcl hz5 hcur hkp6 hb6 hkp7 hb7 hT7 hx6 q0 q1
        gi_wp2_with fail
        have hnew : EaI W S c s fr E v C D (.pointer (some ⟨w5.heap.size, 0, none⟩)) (.bool (isE E (k + 1))) ((w7.setCell ⟨w5.heap.size, 0, none⟩ (.string (atE E (k + 1)).1)).setCell ⟨w5.heap.size, 1, none⟩ (.string (atE E (k + 1)).2)) (m - 1) := by
          obtain ⟨k5, s5⟩ := HK5.out
          have hkm := HM.out.2.2
          have hlt := HLT.out
          have hT7 := HT7.out
          have hkp7 := hT7.kp
          have hcl := HR.out.cur.lt
          have hz5 := k5.size
          have hz6 : (w5.alloc (.cells #[.string x, .string z] 45)).heap.size = w5.heap.size + 1 := by simp
          have hD5 := (HC.out (k + 1)).lt _ _ HC5.out
          have hwr := HR.out.kp.size
          have hrow5 : ∀ b, v'.ownBlock = some b → ¬ D5 b := fun b hb h => by
            rcases s5 b h with h1 | h1
            · exact HR.out.n3 b hb h1
            · have := hcl.2 b hb; omega
          have hc5 : ¬ D5 c := fun h => by
            rcases s5 c h with h1 | h1
            · exact HR.out.n2 h1
            · have := hcl.1; omega
          have ks1 := Keeps.oneSet w7 ⟨w5.heap.size, 0, none⟩ (.string (atE E (k + 1)).1)
          have ks2 := Keeps.oneSet (w7.setCell ⟨w5.heap.size, 0, none⟩ (.string (atE E (k + 1)).1)) ⟨w5.heap.size, 1, none⟩ (.string (atE E (k + 1)).2)
          have ks : Keeps (fun b => b = w5.heap.size) w7 ((w7.setCell ⟨w5.heap.size, 0, none⟩ (.string (atE E (k + 1)).1)).setCell ⟨w5.heap.size, 1, none⟩ (.string (atE E (k + 1)).2)) := ks1.trans ks2
          have hC7 := (HC.out (k + 1)).keeps ((HC.out (k + 1)).keeps HC5.out ((ExtR w5).alloc (.cells #[.string x, .string z] 45)) (fun _ _ h => h)) hkp7.1 (fun b hb e => by
            rcases e with e | e
            · subst e; exact hc5 hb
            · exact hrow5 b e hb)
          have hC9 := (HC.out (k + 1)).keeps hC7 ks (fun b hb e => by have := hD5 b hb; omega)
          have hn7 : ∀ b, v7.ownBlock = some b → ¬ D5 b ∧ b ≠ w5.heap.size := fun b hb => by
            rcases hkp7.2 with h1 | h1
            · have hb' : v'.ownBlock = some b := h1 ▸ hb
              have := hcl.2 b hb'
              exact ⟨hrow5 b hb', by omega⟩
            · have := h1 b hb
              exact ⟨fun h => by have := hD5 b h; omega, by omega⟩
          have hcw : c < W.heap.size := HS.out.cur.lt.1
          refine ⟨k + 1, w5.heap.size, D5, v7, by omega, rfl, rfl, ⟨by omega, hC9, fun b hb => ?_, ?_, ?_, ?_, ?_, by omega, fun h => by have := hD5 _ h; omega, hc5, fun b hb => (hn7 b hb).1, fun e => (hn7 _ e).2 rfl⟩⟩
          · rcases s5 b hb with h | h
            · exact HR.out.sub b h
            · exact .inr (by omega)
          · refine (HKP6.out.trans' hkp7.1 (fun b hb e => ?_)).trans' ks (fun b hb e => by omega)
            rcases e with e | e
            · exact .inr (.inl e)
            · rcases HR.out.row with h1 | h1
              · exact .inr (.inr (h1 ▸ e))
              · have := h1 b e; omega
          · exact (hT7.at').keeps ks (fun e => by omega) (fun b hb e => (hn7 b hb).2 e)
          · rcases hkp7.2 with h1 | h1
            · rcases HR.out.row with h2 | h2
              · exact .inl (h1.trans h2)
              · exact .inr fun b hb => h2 b (h1 ▸ hb)
            · exact .inr fun b hb => by have := h1 b hb; omega
          · exact (HB7.out.set_same (i := 0) (.string (atE E (k + 1)).1)).set_same (i := 1) (.string (atE E (k + 1)).2)
        refine ⟨⟨m - 1, hnew⟩, ?_⟩
        have h1 := (least_spec ⟨_, hnew⟩).2 _ hnew
        have h2 := HM.out.1
        rw [HBK.out] at h2
        rw [← h2]
        have := HM.out.2.2
        have := HLT.out
        omega
      · have HF : Hid (IterPost W (fun b => b = c ∨ v.ownBlock = some b) D O E.length C Cx EaE (.returned (.tuple #[])) w5) := Lib.hid ⟨⟨_, rfl⟩, D5, fun _ => False, HR.out.kp.trans' k5 (fun b hb h => by
            rcases HR.out.sub b h with h | h
            · exact .inl h
            · omega), fun b hb => by
            rcases s5 b hb with h | h
            · exact HR.out.sub b h
            · have := HR.out.kp.size; exact .inr (by omega), fun b h => h.elim, fun b _ h => h, .inr ⟨k + 1, by have := HLT.out; omega, by omega, C5, fun b h => h.elim⟩⟩
        clear k5 s5 hv5 C5
        gi_wp2
        refine bodyPost_ret (results_none rfl _ _ _) rfl ?_
        exact HF.out
end
end Go.Proofs.YtneojlgbcaejmaaGreatDoor
