/- Parts of the proof, one behind the other: PrfN, PrfP, TurnedP. Each is under no condition but those that it states. -/
import Derived.Test.YtjogjmffkmfmbaaGreatDoorPt39
import Derived.Test.YtjogjmffkmfmbaaGreatDoorPt41
import Derived.Test.YtjogjmffkmfmbaaGreatDoorPt43
import Derived.Test.YtjogjmffkmfmbaaGreatDoorPt42
import Derived.Lib.ConvBytes
import Derived.WalkKit
import Derived.ProofKit
import Derived.OpenShut
import Derived.Lib.SmallJoins
import Derived.Deep.DeepHandedRow
import Derived.Lay
import Derived.Carry
import Derived.ChangeMaps5
/- law 11: ProofOne. -/
namespace Go.Proofs.YtjogjmffkmfmbaaGreatDoor
section
open Go Go.RowKit
set_option linter.unusedSimpArgs false
set_option linter.unusedVariables false
attribute [local go_sem] Oper.semAt_some
theorem Tryz.enterCollide : ∀ args w, (callFunc 31 args).run Tryz.prog w = .ok (.enter 31 args) w := fun _ _ => by kernel_rfl
end
end Go.Proofs.YtjogjmffkmfmbaaGreatDoor
/- law 11: ProofTurned. -/
namespace Go.Proofs.YtjogjmffkmfmbaaGreatDoor
section
open Go Go.RowKit
set_option linter.unusedSimpArgs false
set_option linter.unusedVariables false
attribute [local go_sem] Oper.semAt_some
/-! Plain. -/
def DistB (N : List ByteArray) (i : Nat) : Prop := ∀ (a b : Nat) x y, b < a → a < i → N[a]? = some x → N[b]? = some y → shaB x ≠ shaB y
theorem turn_no (w : World) {l : List Pair} (h : checkN l = 0) {key : ByteArray} {ts : List ByteArray} {j : Nat} {x : ByteArray} (hx : (wayN l key)[j]? = some x) (ht : ts.take j = (wayN l key).take j) (hno : ∀ t, ts[j]? = some t → shaB t ≠ shaB x) : (proveR (shaB (trieT l).text) key ts).2 = false := by
  cases hok : (proveR (shaB (trieT l).text) key ts).2 with
  | false => rfl
  | true =>
    obtain ⟨t, h1, h2⟩ := prove_next w h hok hx ht
    exact absurd h2 (hno t h1)
theorem turn_out (w : World) {l : List Pair} (h : checkN l = 0) {key : ByteArray} {k : Nat} (hk : k < (wayN l key).length) (hd : DistB (wayN l key) (wayN l key).length) : (proveR (shaB (trieT l).text) key ((wayN l key).take k ++ (wayN l key).drop (k + 1))).2 = false := by
  obtain ⟨x, hx⟩ : ∃ x, (wayN l key)[k]? = some x := ⟨_, List.getElem?_eq_getElem hk⟩
  have hl : ((wayN l key).take k).length = k := by rw [List.length_take]; omega
  refine turn_no w h hx (by rw [List.take_append_of_le_length (by omega), List.take_take, Nat.min_self]) fun t ht => ?_
  rw [List.getElem?_append_right (by omega), hl, Nat.sub_self, List.getElem?_drop, Nat.add_zero] at ht
  have hl2 := (List.getElem?_eq_some_iff.1 ht).1
  exact hd (k + 1) k t x (by omega) hl2 ht hx
theorem turn_twice (w : World) {l : List Pair} (h : checkN l = 0) {key x : ByteArray} {k : Nat} (hx : (wayN l key)[k]? = some x) (hd : DistB (wayN l key) (wayN l key).length) : (proveR (shaB (trieT l).text) key ((wayN l key).take k ++ [x] ++ (wayN l key).drop k)).2 = false := by
  have hk := (List.getElem?_eq_some_iff.1 hx).1
  have hl : ((wayN l key).take k ++ [x]).length = k + 1 := by rw [List.length_append, List.length_take]; simp; omega
  have ht1 : (wayN l key).take k ++ [x] = (wayN l key).take (k + 1) := by rw [List.take_add_one, hx]; rfl
  rw [ht1]
  rw [ht1] at hl
  by_cases hk1 : k + 1 < (wayN l key).length
  · obtain ⟨y, hy⟩ : ∃ y, (wayN l key)[k + 1]? = some y := ⟨_, List.getElem?_eq_getElem hk1⟩
    refine turn_no w h hy (by rw [List.take_append_of_le_length (by omega), List.take_take, Nat.min_self]) fun t ht => ?_
    rw [List.getElem?_append_right (by omega), hl, Nat.sub_self, List.getElem?_drop, Nat.add_zero, hx] at ht
    obtain rfl := Option.some.inj ht
    exact fun e => hd (k + 1) k y x (by omega) hk1 hy hx e.symm
  · have e1 : (wayN l key).take (k + 1) = wayN l key := List.take_of_length_le (by omega)
    rw [e1]
    cases hok : (proveR (shaB (trieT l).text) key (wayN l key ++ (wayN l key).drop k)).2 with
    | false => rfl
    | true =>
      have := prove_rest w h hok
      have h0 := congrArg List.length this
      rw [List.length_drop, List.length_nil] at h0
      omega
theorem turn_bit (w : World) {l : List Pair} (h : checkN l = 0) {key x b : ByteArray} {k : Nat} {ts : List ByteArray} (hx : (wayN l key)[k]? = some x) (hb : shaB b ≠ shaB x) : (proveR (shaB (trieT l).text) key ((wayN l key).take k ++ [b] ++ ts)).2 = false := by
  have hk := (List.getElem?_eq_some_iff.1 hx).1
  have hl : ((wayN l key).take k).length = k := by rw [List.length_take]; omega
  refine turn_no w h hx (by rw [List.append_assoc, List.take_append_of_le_length (by omega), List.take_take, Nat.min_self]) fun t ht => ?_
  rw [List.append_assoc, List.getElem?_append_right (by omega), hl, Nat.sub_self] at ht
  have ht : some b = some t := ht
  obtain rfl := Option.some.inj ht
  exact hb
theorem turn_root (l : List Pair) (key root : ByteArray) (hr : root ≠ shaB (trieT l).text) : (proveR root key (wayN l key)).2 = false := by
  unfold proveR
  split
  · rfl
  · have e : (proveN root (pathB key) (wayN l key)).2.2 = false := by
      unfold wayN proveN
      show (if shaB (trieT l).text = root then _ else (([], (trieT l).text :: wayL 12 (rowsL l) (pathB key), false) : List (NodeT × ByteArray) × List ByteArray × Bool)).2.2 = false
      rw [if_neg (fun e => hr e.symm)]
    show ((proveN root (pathB key) (wayN l key)).2.2 && _) = false
    rw [e]; rfl
/-! append of texts that are read. -/
theorem wpList_appRdK {ops : Array Oper} {rest : List Oper} {d : Option Tmp} {ty : TypeId} {pos : String} {af : Array Edge} {a : Act} {w0 w : World} {Q : Exit → Act → World → Prop} {s x : Operand} {v pv : Value} {n N : Nat} {xs : List Value} {ys : List ByteArray}
    (hR : ORow 9 1 w0 w v n xs) (hP : RdS w pv ys) (hN : n + ys.length = N) (hs : a.eval s = v) (hx : a.eval x = pv) (h63 : N ≤ 1000000)
    (h : ∀ v' w', ORow 9 1 w0 w' v' N (xs ++ ys.map Value.string) → Keeps (fun b => v.ownBlock = some b) w w' → (v'.ownBlock = v.ownBlock ∨ ∀ b, v'.ownBlock = some b → w.heap.size ≤ b) → wpList Tryz.prog ops Q rest (a.put d v') w') :
    wpList Tryz.prog ops Q (⟨d, .call { callee := .builtin .append, args := #[s, x], argTypes := #[22, 22] }, ty, pos, af, none⟩ :: rest) a w := by
  subst hN
  have main : ∀ (ad : Addr) (c : Nat), pv = .slice (some ad) ys.length c → (∀ (j : Nat) u, (ys.map Value.string)[j]? = some u → w.cell? (ad.add j) = some u) → wpList Tryz.prog ops Q (⟨d, .call { callee := .builtin .append, args := #[s, x], argTypes := #[22, 22] }, ty, pos, af, none⟩ :: rest) a w := fun ad c e hc => by
    obtain ⟨i, z, e1, e2, e3, e4, e5⟩ := Tryz.sStrs.hi
    exact wpList_append_any w rfl s x 22 rfl 9 i z 1 16 Tryz.sStrs.ht e1 e2 e3 e4 e5 Tryz.sStrs.hsz v n xs hs hR.own ad ys.length c (ys.map Value.string) (hx.trans e) (by simp) hc (fun u hu => by obtain ⟨y, _, rfl⟩ := List.mem_map.1 hu; rfl) (by unfold maxLen; omega) (by omega) (fun v' w' r1 r2 r3 => h v' w' (hR.step r1 r2 r3) r2 r3)
  rcases hP with ⟨ad, c, rfl, rfl⟩ | ⟨b, o, c, rfl, hb, hc, hcell⟩
  · cases ad with
    | some ad => exact main ad c rfl (fun j u hj => by simp at hj)
    | none =>
      obtain ⟨ad, c2, rfl⟩ := hR.sl
      have hle : n ≤ c2 := by
        obtain ⟨_, ⟨e, e2⟩ | ⟨g, cap, cur, e, _, _, k5, _⟩⟩ := hR.own
        · omega
        · obtain ⟨_, _, e⟩ := Value.slice.inj e; omega
      refine wpList_app0 Tryz.sStrs hs hx hle (h _ _ ?_ (Keeps.refl _ _) (.inl rfl))
      simpa using hR
  · refine main ⟨b, o, none⟩ c rfl fun j u hj => ?_
    rw [List.getElem?_map] at hj
    obtain ⟨t, ht, rfl⟩ := Option.map_eq_some_iff.1 hj
    rw [Addr.add_lit]
    exact hcell j t ht
theorem wpList_appRd {ops : Array Oper} {rest : List Oper} {d : Option Tmp} {ty : TypeId} {pos : String} {af : Array Edge} {a : Act} {w0 w : World} {Q : Exit → Act → World → Prop} {s x : Operand} {v pv : Value} {n N : Nat} {xs : List Value} {ys : List ByteArray}
    (hR : ORow 9 1 w0 w v n xs) (hP : RdS w pv ys) (hN : n + ys.length = N) (hs : a.eval s = v) (hx : a.eval x = pv) (h63 : N ≤ 1000000)
    (h : ∀ v' w', ORow 9 1 w0 w' v' N (xs ++ ys.map Value.string) → wpList Tryz.prog ops Q rest (a.put d v') w') :
    wpList Tryz.prog ops Q (⟨d, .call { callee := .builtin .append, args := #[s, x], argTypes := #[22, 22] }, ty, pos, af, none⟩ :: rest) a w := by
  exact wpList_appRdK hR hP hN hs hx h63 (fun v' w' r _ _ => h v' w' r)
theorem rds_litS (W : World) (p : Addr) (u : Value) (xs : List ByteArray) (T : TypeId) : RdS ((W.setCell p u).alloc (.cells (xs.map Value.string).toArray T)) (.slice (some ⟨W.heap.size, 0, none⟩) xs.length xs.length) xs := by
  have := rds_lit (W.setCell p u) xs T
  have e : (W.setCell p u).heap.size = W.heap.size := by simp [World.setCell]
  rwa [e] at this
theorem RdS.dropIf {w : World} {b o c n j : Nat} {l : List ByteArray} (h : RdS w (.slice (some ⟨b, o, none⟩) l.length c) l) (hn : l.length = n) (hj : j ≤ n) : RdS w (.slice (if c = j then some ⟨b, o, none⟩ else some ⟨b, o + j, none⟩) (n - j) (c - j)) (l.drop j) := by
  subst hn
  by_cases h0 : l.length - j = 0
  · rw [h0]
    exact .inl ⟨_, _, rfl, List.drop_of_length_le (by omega)⟩
  rcases h with ⟨_, _, e, h1⟩ | ⟨b', o', c1, h1, h2, h3, h4⟩
  · rw [h1] at h0; simp at h0
  · obtain ⟨e1, _, e3⟩ := Value.slice.inj h1
    obtain ⟨rfl, rfl⟩ : b = b' ∧ o = o' := by
      have := Option.some.inj e1; injection this with h1 h2 h3; exact ⟨h1, h2⟩
    rw [if_neg (by omega)]
    refine .inr ⟨b, o + j, c - j, by rw [List.length_drop], h2, by rw [List.length_drop]; omega, fun i x hx => ?_⟩
    rw [List.getElem?_drop] at hx
    rw [Nat.add_assoc]
    exact h4 (j + i) x hx
theorem nodeB_pos (n : NodeT) : 0 < (nodeB n).size := by
  have hh : ∀ b m, 0 < (headB b m).size := fun b m => by
    unfold headB
    split
    · exact Nat.one_pos
    · rw [ByteArray.size_append]
      have : (⟨#[b + 55 + UInt8.ofNat (digitsB m).size]⟩ : ByteArray).size = 1 := rfl
      omega
  have hl : ∀ xs, 0 < (listB xs).size := fun xs => by
    unfold listB; rw [ByteArray.size_append]; have := hh 192 (catB xs).size; omega
  unfold nodeB
  split
  · decide
  · split
    · exact hl _
    · split
      · exact hl _
      · exact hl _
theorem way_size (w : World) {l : List Pair} (h : checkN l = 0) {key x : ByteArray} (hx : x ∈ wayN l key) : 0 < x.size ∧ x.size ≤ 2000 := by
  have hr := rows_ok (check_ok h)
  unfold wayN at hx
  rcases List.mem_cons.1 hx with e | hx
  · rw [e]
    exact ⟨nodeB_pos (nodeF (buildT 12) (rowsL l)), nodeB_size (nodeF (buildT 12) (rowsL l)) ((good 12 _ hr).1.one (inlP 12))⟩
  · obtain ⟨g, m, hW⟩ := way_is 12 _ _ hr (path_nib key) x hx
    rw [hW.text]
    exact ⟨nodeB_pos (nodeF (buildT g) m), nodeB_size (nodeF (buildT g) m) ((good g _ hW.rows).1.one (inlP g))⟩
theorem xor_u8 (c : UInt8) : bits .xor .u8 (c.toNat : Int) 1 = ((c ^^^ 1).toNat : Int) := by
  have : ∀ f : Fin 256, bits .xor .u8 (f.1 : Int) 1 = (((UInt8.ofNat f.1) ^^^ 1).toNat : Int) := by decide +kernel
  have h := this ⟨c.toNat, c.toNat_lt⟩
  simpa using h
theorem xor_ne (c : UInt8) : c ^^^ 1 ≠ c := by
  have : ∀ f : Fin 256, (UInt8.ofNat f.1) ^^^ 1 ≠ UInt8.ofNat f.1 := by decide +kernel
  have h := this ⟨c.toNat, c.toNat_lt⟩
  simpa using h
/-- A text, one byte of which is another one. -/
def bitB (x : ByteArray) (j : Nat) : ByteArray := ⟨(x.data.toList.set j ((x.data.toList.getD j 0) ^^^ 1)).toArray⟩
theorem bitB_size (x : ByteArray) (j : Nat) : (bitB x j).size = x.size := by
  show (x.data.toList.set j _).length = _
  rw [List.length_set]; rfl
theorem bitB_ne {x : ByteArray} {j : Nat} (h : j < x.size) : bitB x j ≠ x := fun e => by
  have e1 := congrArg (fun b : ByteArray => b.data.toList[j]?) e
  have e1 : (x.data.toList.set j ((x.data.toList.getD j 0) ^^^ 1))[j]? = x.data.toList[j]? := e1
  have hj : j < x.data.toList.length := h
  rw [List.getElem?_set_self hj, List.getElem?_eq_getElem hj, List.getD_eq_getElem?_getD, List.getElem?_eq_getElem hj] at e1
  exact xor_ne _ (Option.some.inj e1)
/-- []byte(x), one byte turned, and back. -/
structure FlipP (w : World) (x : ByteArray) (j : Nat) (c7 : Nat) (W7 W8 : World) : Prop where
  conv : (convert 9 63 (.string x)).run Tryz.prog w = .ok (.slice (some ⟨w.heap.size, 0, none⟩) x.size c7) W7
  cell : W7.cell? ⟨w.heap.size, j, none⟩ = some (.int .u8 ((x.data.toList.getD j 0).toNat : Int))
  fro : W7.frozen? ⟨w.heap.size, j, none⟩ = false
  at8 : W8 = W7.setCell ⟨w.heap.size, j, none⟩ (.int .u8 (bits .xor .u8 ((x.data.toList.getD j 0).toNat : Int) 1))
  ext8 : Ext w W8
  back : ∀ W, W.heap[w.heap.size]? = W8.heap[w.heap.size]? → (convert 63 9 (.slice (some ⟨w.heap.size, 0, none⟩) x.size c7)).run Tryz.prog W = .ok (.string (bitB x j)) W
theorem flip_ok (w : World) (x : ByteArray) (j : Nat) (hj : j < x.size) : ∃ c7 W7 W8, FlipP w x j c7 W7 W8 := by
  have hcv := Lib.run_convert_string_bytes (P := Tryz.prog) w 9 63 5 x Tryz.uStr Tryz.uBytes Tryz.uU8
  have hE : Ext w (Lib.bytesWorld w 5 x) := ⟨rfl, rfl, rfl, by rw [Lib.bytesWorld_size]; omega, fun b hb _ => Lib.bytesWorld_at_old w _ x b hb⟩
  have hB : Blk (Lib.bytesWorld w 5 x) w.heap.size _ := Lib.bytesWorld_at_new w 5 x
  have hcs : x.size ≤ (Lib.bytesCells w 5 x).size := by
    unfold Lib.bytesCells
    rw [Array.size_append, Array.size_map]
    show x.size ≤ x.data.size + _
    have : x.data.size = x.size := rfl
    omega
  have hcc : ∀ i, i < x.size → (Lib.bytesCells w 5 x)[i]? = some (.int .u8 ((x.data.toList.getD i 0).toNat : Int)) := fun i hi => by
    have := Lib.bytesWorld_cell w 5 x i hi
    have h2 := Blk.cell (i := i) (v := .int .u8 ((x.data.toList.getD i 0).toNat : Int)) hB
    obtain ⟨v, hv⟩ : ∃ v, (Lib.bytesCells w 5 x)[i]? = some v := ⟨_, Array.getElem?_eq_getElem (by omega)⟩
    have h3 := Blk.cell (i := i) hB hv
    rw [this] at h3
    rw [hv, Option.some.inj h3]
  refine ⟨_, _, (Lib.bytesWorld w 5 x).setCell ⟨w.heap.size, j, none⟩ (.int .u8 (((x.data.toList.getD j 0) ^^^ 1).toNat : Int)), hcv, Lib.bytesWorld_cell w _ x j hj, ?_, by rw [xor_u8], ?_, fun W hW => ?_⟩
  · show World.frozen? _ _ = false
    unfold World.frozen?
    rw [show (Lib.bytesWorld w 5 x).heap[w.heap.size]? = _ from hB]
    simp; omega
  · exact hE.trans' (Keeps.oneSet _ ⟨w.heap.size, j, none⟩ _) (fun z hz e => by have e : z = w.heap.size := e; omega)
  · have hB2 := hW.trans (Blk.set_same (i := j) hB (.int .u8 (((x.data.toList.getD j 0) ^^^ 1).toNat : Int)))
    have hl : (x.data.toList.set j ((x.data.toList.getD j 0) ^^^ 1)).length = x.size := by rw [List.length_set]; rfl
    have := run_convert_bytes_back (P := Tryz.prog) W 63 9 5 ⟨w.heap.size, 0, none⟩ (grownCap w x.size 0 5) (x.data.toList.set j ((x.data.toList.getD j 0) ^^^ 1)) Tryz.uBytes Tryz.uU8 Tryz.uStr (fun i hi => by
      rw [hl] at hi
      rw [Addr.add_lit, Nat.zero_add]
      refine Blk.cell hB2 ?_
      rw [Array.getElem?_setIfInBounds]
      by_cases hji : j = i
      · subst hji
        rw [if_pos rfl, if_pos (by omega), List.getElem_set_self]
      · rw [if_neg hji, hcc i hi, List.getElem_set_ne hji, List.getD_eq_getElem?_getD, List.getElem?_eq_getElem (show i < x.data.toList.length from hi)]; rfl)
    rw [hl] at this
    exact this
theorem conv_any {w : World} {v u : Value} {S T : TypeId} {a : Act} {o : Oper} (ho : execOp a.eval o = (do pure (.value (← convert S T v)))) (hc : (convert S T v).run Tryz.prog w = .ok u w) : (execOp a.eval o).run Tryz.prog w = .ok (.value u) w := by
  rw [ho, Sem.run_bind, hc]
  rfl
theorem Tryz.enterShaOf11 : ∀ args w, (callFunc 32 args).run Tryz.prog w = .ok (.enter 32 args) w := fun _ _ => by kernel_rfl
def TuR (w5 : World) (N : List ByteArray) (v : Value) (wr : World) : Prop := ∃ i : Nat, i ≤ N.length ∧ v = .int .i64 i ∧ Ext w5 wr ∧ DistB N i
def TuR2 (w5 : World) (N : List ByteArray) (i : Nat) (x : ByteArray) (v : Value) (wr : World) : Prop := ∃ j : Nat, j ≤ i ∧ v = .int .i64 j ∧ Ext w5 wr ∧ ∀ (b : Nat) y, b < j → N[b]? = some y → shaB x ≠ shaB y
theorem DistB.succ {N : List ByteArray} {i : Nat} {x : ByteArray} (h : DistB N i) (hx : N[i]? = some x) (h2 : ∀ (b : Nat) y, b < i → N[b]? = some y → shaB x ≠ shaB y) : DistB N (i + 1) := fun a b u v hb ha hu hv => by
  by_cases hai : a < i
  · exact h a b u v hb hai hu hv
  · have : a = i := by omega
    subst this
    obtain rfl := Option.some.inj (hx.symm.trans hu)
    exact h2 b v hb hv
set_option maxRecDepth 100000 in
set_option maxHeartbeats 32000000 in
theorem turned_c (w : World) (hc : Cubes w) (hG : ErrT w) (v : Value) (l : List Pair) (key : ByteArray) (at' by' how : Nat) (hv : RdP w v l) (hn : l.length ≤ 9223372036854775807) (hs : SmallP l) (ha : at' < 256) (hb : by' < 256) (hh : how < 256) :
    Calls Tryz.prog 7 #[v, .string key, .int .u8 (at' : Int), .int .u8 (by' : Int), .int .u8 (how : Int)] w fun e w' => e = .returned (.bool true) ∧ Ext w w' := by
  have HC := Lib.hid hc
  have HG := Lib.hid hG
  have HV := Lib.hid hv
  have HN := Lib.hid (And.intro hn hs)
  have HA := Lib.hid (And.intro ha (And.intro hb hh))
  obtain ⟨va, vc, hsl⟩ := hv.sl
  subst hsl
  clear hc hG hv hn hs ha hb hh
  go_enter Tryz.func7, Tryz.ntmps7
  go_wp2_with fail
  refine (works11_c w HC.out).mono ?_
  rintro e w1 ⟨rfl, hE⟩
  have HE1 := Lib.hid hE
  clear hE
  go_wp2_with fail
  refine (hold08x_c w1 (HC.out.ext HE1.out) _ l (HV.out.ext HE1.out) HN.out.1 HN.out.2).mono ?_
  rintro e w2 (⟨rfl, hE, _⟩ | ⟨s, bm, S, rfl, hE, hH, _, _⟩)
  · have HE2 := Lib.hid (HE1.out.trans hE)
    clear hE HE1
    go_wp2_with fail
    go_ret
    exact ⟨rfl, HE2.out⟩
  have HE2 := Lib.hid (HE1.out.trans hE)
  have HS2 := Lib.hid hH.st
  have HM := Lib.hid hH.hasM
  obtain ⟨rt, hrt⟩ : ∃ rt, rt = shaB (trieT l).text := ⟨_, rfl⟩
  have HRT := Lib.hid hrt
  rw [← hrt]
  clear hE hH HE1 hrt
  by_cases h50 : 50 < key.size
  · have c1 : (50 : Int) < (key.size : Int) := by omega
    clear h50
    go_wp2_with fail
    go_ret
    exact ⟨rfl, HE2.out⟩
  have c1 : ¬ (50 : Int) < (key.size : Int) := by omega
  have HK := Lib.hid (show key.size ≤ 1000 by omega)
  clear h50
  go_wp2_with fail
  have hbd := build11_c w2 s bm 2000 S HS2.out l HM.out key HK.out
  rw [← HRT.out] at hbd
  refine hbd.mono ?_
  rintro e w3 ⟨pa, pc, rfl, hP⟩
  obtain ⟨N, hN⟩ : ∃ N, N = wayN l key := ⟨_, rfl⟩
  rw [← hN] at hP ⊢
  have HNN := Lib.hid hN
  have hln := wayN_len l key
  rw [← hN] at hln
  have HLN := Lib.hid hln
  have HP3 := Lib.hid hP.rd
  have HE3 := Lib.hid (HE2.out.trans hP.ext)
  obtain ⟨x0, hx0⟩ : ∃ x, N[0]? = some x := ⟨_, List.getElem?_eq_getElem (by omega)⟩
  obtain ⟨a7, c7, hhh, hcx⟩ := hP.rd.slice
  obtain ⟨bx, ox, hax, hcx0⟩ := hcx 0 x0 hx0
  obtain ⟨e1, _, e3⟩ := Value.slice.inj hhh
  rw [hax] at e1
  subst e1
  subst e3
  have HCL := Lib.hid (show ∀ (j : Nat) x, N[j]? = some x → w3.cell? ⟨bx, ox + j, none⟩ = some (.string x) from fun j x hx => by
    obtain ⟨b2, o2, h1, h2⟩ := hcx j x hx
    rw [hax] at h1
    obtain ⟨rfl, rfl⟩ : bx = b2 ∧ ox = o2 := by
      have := Option.some.inj h1; injection this with h1 h2 h3; exact ⟨h1, h2⟩
    exact h2)
  have hcap := hP.rd.cap
  have n0 : ((N.length : Int) == 0) = false := beq_eq_false_iff_ne.2 (by omega)
  clear hbd hP HE2 HS2 hN hln hx0 hhh hcx hcx0 hax
  go_wp2_with fail
  go_loopw [16] (fun i wr => TuR w3 N i wr) (fun i _ => N.length - (intOf i).toNat)
  case atStart => exact ⟨0, by omega, rfl, ExtR w3, fun a b x y hb ha => by omega⟩
  case round =>
    obtain ⟨i, hi, rfl, hE, hall⟩ := hrel
    have HE := Lib.hid hE
    have HALL := Lib.hid hall
    have hi13 : i ≤ 13 := by have := HLN.out; omega
    clear hE hall
    by_cases hlt : i < N.length
    · obtain ⟨x, hx⟩ : ∃ x, N[i]? = some x := ⟨_, List.getElem?_eq_getElem hlt⟩
      have HXI := Lib.hid hx
      have b1 : (i : Int) < (N.length : Int) := by omega
      clear hx
      go_wp2_with fail
      go_loopw [17] (fun j wr => TuR2 w3 N i x j wr) (fun j _ => i - (intOf j).toNat)
      case atStart => exact ⟨0, by omega, rfl, HE.out, fun b y hb => by omega⟩
      case round =>
        obtain ⟨j, hj, rfl, hF, hall2⟩ := hrel
        have HF := Lib.hid hF
        have HALL2 := Lib.hid hall2
        clear hF hall2
        by_cases hlt2 : j < i
        · obtain ⟨y, hy⟩ : ∃ y, N[j]? = some y := ⟨_, List.getElem?_eq_getElem (by omega)⟩
          have HYJ := Lib.hid hy
          have b2 : (j : Int) < (i : Int) := by omega
          have b3 : (j : Int) < (N.length : Int) := by omega
          have QX := Lib.hid (cell_ext (HCL.out i x HXI.out) HF.out)
          have QY := Lib.hid (cell_ext (HCL.out j y hy) HF.out)
          clear hy
          go_wp2_with fail
          refine wp_region_mixF 4 [0,1,2,3,6,7,8,9] Ext ExtR ExtT (by kernel_rfl) (by kernel_rfl) (by kernel_rfl) ?_
          iterate 3 (refine mixj_pure _ rfl (by kernel_rfl) rfl rfl (fun K hK => ?_); go_big_quiet_op; refine hK _ ?_; clear hK K)
          refine mixj_load ⟨bx, ox + i, none⟩ (.string x) rfl (by kernel_rfl) rfl rfl (fun w2 h2 => run_load_plain Tryz.uStr rfl (cell_ext (by exact QX.out) ((drewE _).trans h2))) ?_
          simp only [Act.put, List.setIfInBounds_toArray, List.set_cons_zero, List.set_cons_succ]
          iterate 3 (refine mixj_pure _ rfl (by kernel_rfl) rfl rfl (fun K hK => ?_); go_big_quiet_op; refine hK _ ?_; clear hK K)
          refine mixj_load ⟨bx, ox + j, none⟩ (.string y) rfl (by kernel_rfl) rfl rfl (fun w2 h2 => run_load_plain Tryz.uStr rfl (cell_ext (by exact QY.out) ((drewE _).trans h2))) ?_
          simp only [Act.put, List.setIfInBounds_toArray, List.set_cons_zero, List.set_cons_succ]
          refine mixj_end ?_
          refine fork_two (j := 4) (k := 10) _ _ [5,10,11,12] [4,5,11,12] (by kernel_rfl) rfl rfl rfl rfl rfl rfl (fun u3 h3 K hK => ?f1) (fun u3 h3 K hK => ?f2)
          case' f1 =>
            have HE3' := Lib.hid (HF.out.trans ((drewE _).trans h3))
            have HS1 := Lib.hid (rds_lit u3 [x] 9)
            clear h3 QX QY
            go_simp
            refine hK _ _ ((ExtR u3).alloc _) ?_
            clear hK K
            refine mixk_call _ 32 _ (.string (shaB (catB [x]))) rfl (by kernel_rfl) rfl (fun w1 => exec_call Tryz.enterShaOf11 (by kernel_rfl)) (fun w4 h4 => of_t w4 _ [x] (by simp) (HS1.out.ext (by exact h4)) (HC.out.ext (HE3.out.trans ((HE3'.out.trans ((ExtR u3).alloc _)).trans h4)))) ?_
            simp only [Act.put, List.setIfInBounds_toArray, List.set_cons_zero, List.set_cons_succ]
            refine mixk_hard _ rfl (by kernel_rfl) rfl (fun u4 h4 K hK => ?_)
            have HE4 := Lib.hid ((HE3'.out.trans ((ExtR u3).alloc _)).trans h4)
            have HS2 := Lib.hid (rds_lit u4 [y] 9)
            clear h4 HE3' HS1
            go_simp
            refine hK _ _ ((ExtR u4).alloc _) ?_
            clear hK K
            refine mixk_call _ 32 _ (.string (shaB (catB [y]))) rfl (by kernel_rfl) rfl (fun w1 => exec_call Tryz.enterShaOf11 (by kernel_rfl)) (fun w5 h5 => of_t w5 _ [y] (by simp) (HS2.out.ext (by exact h5)) (HC.out.ext (HE3.out.trans ((HE4.out.trans ((ExtR u4).alloc _)).trans h5)))) ?_
            simp only [Act.put, List.setIfInBounds_toArray, List.set_cons_zero, List.set_cons_succ]
          case' f2 =>
            have HE3' := Lib.hid (HF.out.trans ((drewE _).trans h3))
            have HS2' := Lib.hid (rds_lit u3 [y] 9)
            clear h3 QX QY
            go_simp
            refine hK _ _ ((ExtR u3).alloc _) ?_
            clear hK K
            refine mixk_hard _ rfl (by kernel_rfl) rfl (fun u4 h4 K hK => ?_)
            have HE4 := Lib.hid ((HE3'.out.trans ((ExtR u3).alloc _)).trans h4)
            have HS2 := Lib.hid (HS2'.out.ext (by exact h4))
            have HS1 := Lib.hid (rds_lit u4 [x] 9)
            clear h4 HE3' HS2'
            go_simp
            refine hK _ _ ((ExtR u4).alloc _) ?_
            clear hK K
            refine mixk_call _ 32 _ (.string (shaB (catB [x]))) rfl (by kernel_rfl) rfl (fun w1 => exec_call Tryz.enterShaOf11 (by kernel_rfl)) (fun w5 h5 => of_t w5 _ [x] (by simp) (HS1.out.ext (by exact h5)) (HC.out.ext (HE3.out.trans ((HE4.out.trans ((ExtR u4).alloc _)).trans h5)))) ?_
            simp only [Act.put, List.setIfInBounds_toArray, List.set_cons_zero, List.set_cons_succ]
            refine mixk_call _ 32 _ (.string (shaB (catB [y]))) rfl (by kernel_rfl) rfl (fun w1 => exec_call Tryz.enterShaOf11 (by kernel_rfl)) (fun w5 h5 => of_t w5 _ [y] (by simp) (HS2.out.ext (((ExtR u4).alloc _).trans (by exact h5))) (HC.out.ext (HE3.out.trans ((HE4.out.trans ((ExtR u4).alloc _)).trans h5)))) ?_
            simp only [Act.put, List.setIfInBounds_toArray, List.set_cons_zero, List.set_cons_succ]
            clear HS1
          all_goals
            rw [catB_one, catB_one]
            have hnb : (shaB x == shaB y) = decide (shaB x = shaB y) := ba_beq _ _
            have hnq := nbeq_sha (shaB x) (shaB y)
            by_cases hsh : shaB x = shaB y
            · simp only [decide_eq_true hsh] at hnq
              clear hsh
              iterate 1 (refine mixk_pure _ rfl (by kernel_rfl) rfl rfl (fun K hK => ?_); go_big_quiet_op; refine hK _ ?_; clear hK K)
              refine mixk_end (by kernel_rfl) (fun u5 he => ?_)
              have HE5 := Lib.hid (HE3.out.trans ((HE4.out.trans ((ExtR _).alloc _)).trans he))
              clear he HE4 hnb HS2
              go_wp2_with fail
              go_ret
              exact ⟨rfl, HE5.out⟩
            · simp only [hsh, decide_false] at hnq
              have HNS := Lib.hid hsh
              clear hsh
              iterate 1 (refine mixk_pure _ rfl (by kernel_rfl) rfl rfl (fun K hK => ?_); go_big_quiet_op; refine hK _ ?_; clear hK K)
              refine mixk_end (by kernel_rfl) (fun u5 he => ?_)
              have HE5 := Lib.hid ((HE4.out.trans ((ExtR _).alloc _)).trans he)
              have HST := Lib.hid (show ∀ (b : Nat) z, b < j + 1 → N[b]? = some z → shaB x ≠ shaB z from fun b z hb hz => by
                by_cases hbj : b < j
                · exact HALL2.out b z hbj hz
                · have : b = j := by omega
                  subst this
                  obtain rfl := Option.some.inj (HYJ.out.symm.trans hz)
                  exact HNS.out)
              clear he HE4 hnb HS2
              go_wp2_with fail
              go_roundw
              case rel => exact ⟨j + 1, by omega, by go_num, HE5.out, HST.out⟩
              case measure => simp [intOf]; omega
        · have hji : j = i := by omega
          have b2 : ¬ (j : Int) < (i : Int) := by omega
          have HST := Lib.hid (DistB.succ HALL.out HXI.out (by rw [← hji]; exact HALL2.out))
          clear hji
          go_wp2_with fail
          go_roundw
          case rel => exact ⟨i + 1, by omega, by go_num, HF.out, HST.out⟩
          case measure => simp [intOf]; omega
    · have hin : i = N.length := by omega
      have HD := Lib.hid (show DistB N N.length by rw [← hin]; exact HALL.out)
      have b1 : ¬ (i : Int) < (N.length : Int) := by omega
      clear hin
      go_wp2_with fail
      have hx4 : Ext wr (wr.alloc (.cells #[.string rt] 9)) := (ExtR wr).alloc _
      refine (of_t _ _ [rt] (by simp) (rds_lit wr [rt] 9) (HC.out.ext (HE3.out.trans (HE.out.trans hx4)))).mono ?_
      rintro e w5 ⟨rfl, hE⟩
      rw [catB_one]
      have HE5 := Lib.hid ((HE.out.trans hx4).trans hE)
      clear hE hx4
      have hnq := nbeq_sha (shaB rt) rt
      by_cases hsr : shaB rt = rt
      · simp only [decide_eq_true hsr] at hnq
        clear hsr
        go_wp2_with fail
        go_ret
        exact ⟨rfl, HE3.out.trans HE5.out⟩
      simp only [hsr, decide_false] at hnq
      have HSR := Lib.hid hsr
      clear hsr
      obtain ⟨n, hn⟩ : ∃ n, n = N.length := ⟨_, rfl⟩
      rw [← hn]
      obtain ⟨k, hk⟩ : ∃ k, k = at' % n := ⟨_, rfl⟩
      have hkn : k < n := by rw [hk]; exact Nat.mod_lt _ (by have := HLN.out; omega)
      have ha := HA.out.1
      have hkt : Int.tmod (at' : Int) (n : Int) = (k : Int) := by rw [hk]; rfl
      have HKK := Lib.hid hk
      have HNL := Lib.hid hn
      clear hn hk
      have b2 : (k : Int) ≤ (pc : Int) := by rw [← HNL.out] at hcap; omega
      have HW0 := Lib.hid (show ORow 9 1 w5 (w5.alloc (.cells #[] 9)) (.slice (some ⟨w5.heap.size, 0, none⟩) 0 0) 0 [] from ORow.lit #[] (ExtR w5) (by decide) rfl)
      have HP5 := Lib.hid (HP3.out.ext HE5.out)
      have HP5' := Lib.hid (show RdS (w5.alloc (.cells #[] 9)) (.slice (some ⟨bx, ox, none⟩) k pc) (N.take k) from (RdS.take HP5.out (by rw [← HNL.out]; omega)).ext ((ExtR w5).alloc _))
      have HTL := Lib.hid (show (N.take k).length = k by rw [List.length_take, ← HNL.out]; omega)
      have hk6 : k ≤ 1000000 := by have := HLN.out; rw [← HNL.out] at this; omega
      have hh4 := HA.out.2.2
      obtain ⟨q, hq⟩ : ∃ q, q = how % 4 := ⟨_, rfl⟩
      have hq4 : q < 4 := by omega
      have hqi : (how : Int) % 4 = (q : Int) := by omega
      have hqt : Int.tmod (how : Int) 4 = (q : Int) := by rw [hq]; rfl
      clear hq
      obtain ⟨x, hx⟩ : ∃ x, N[k]? = some x := ⟨_, List.getElem?_eq_getElem (by rw [← HNL.out]; exact hkn)⟩
      have HX := Lib.hid hx
      have HGN := Lib.hid (show GetAll w N by rw [HNN.out]; exact way_get w HM.out.ok key)
      have HXM := Lib.hid (show x ∈ N from List.mem_of_getElem? hx)
      have hbk : (k : Int) < (n : Int) := by omega
      have HDN := Lib.hid (show DistB (wayN l key) (wayN l key).length by rw [← HNN.out]; exact HD.out)
      have HDL := Lib.hid (show ∀ j, j ≤ n → (N.drop j).length = n - j from fun j hj => by rw [List.length_drop, ← HNL.out])
      clear hx
      match q, hq4 with
      | 0, _ =>
        have HPD := Lib.hid (fun w6 (h6 : Ext w5 w6) => RdS.dropIf (j := k + 1) (HP5.out.ext h6) HNL.out.symm (by omega))
        have hk7 : n - 1 ≤ 1000000 := by have := HLN.out; rw [← HNL.out] at this; omega
        go_wp2_with (first | (at_builtin; (refine wpList_appRd HW0.out HP5'.out (show 0 + (N.take k).length = k by rw [HTL.out]; omega) rfl rfl hk6 ?_; intro v6 w6 r1; have HR6 := Lib.hid r1; clear r1)) | (at_builtin; (refine wpList_appRd HR6.out (HPD.out w6 HR6.out.ext) (show k + (N.drop (k + 1)).length = n - 1 by rw [HDL.out _ (by omega)]; omega) rfl rfl hk7 ?_; intro v7 w7 r1; have HR7 := Lib.hid r1; clear r1)))
        all_goals
          have HOD := Lib.hid (show SRow w5 w7 v7 (n - 1) (N.take k ++ N.drop (k + 1)) from by have h := HR7.out; rw [List.nil_append, ← List.map_append] at h; exact h)
          have HEN := Lib.hid (HE3.out.trans (HE5.out.trans HOD.out.ext))
          have hvf := verify_c w7 (HC.out.ext HEN.out) (rt) key HK.out v7 (N.take k ++ N.drop (k + 1)) (SRow.rd HOD.out) (fun t ht => (HGN.out).ext HEN.out t (by rcases List.mem_append.1 ht with h | h; exact List.mem_of_mem_take h; exact List.mem_of_mem_drop h))
          have hpr : verV (proveR (rt) key (N.take k ++ N.drop (k + 1))) = .tuple #[.agg (clmL none).toArray, .int .i64 10] := by
            have h2 : (proveR (rt) key (N.take k ++ N.drop (k + 1))).2 = false := (by rw [HRT.out, HNN.out]; exact turn_out w HM.out.ok (by rw [← HNN.out, ← HNL.out]; exact hkn) HDN.out)
            unfold verV; rw [if_neg (by rw [h2]; decide)]; rfl
          rw [hpr] at hvf
          clear hpr
          refine hvf.mono ?_
          rintro e u1 ⟨rfl, hE⟩
          have HEQ := Lib.hid (HEN.out.trans hE)
          clear hvf hE
          have hq := eql_clmV none none
          unfold clmV clmL at hq
          go_wp2_with (first | (refine wpList_new Tryz.allocClaim rfl rfl ?_; intro W6 hB6 hE6) | (refine wpList_fill (old := clmL none) (vs := clmL none) rfl rfl rfl rfl hB6 rfl (by rw [clm_len]; exact Tryz.szClaim) (clm_one _) ?_; intro W7 hB7 hE7) | (refine wpList_load_known 47 (.tmp 21) rfl rfl _ _ rfl (run_load_clm hB7) ?_; unfold clmV clmL))
          go_ret
          exact ⟨rfl, HEQ.out.trans (hE6.trans' hE7 (fun x hx e => by have e : x = u1.heap.size := e; omega))⟩
      | 1, _ =>
        have HPD := Lib.hid (fun w6 (h6 : Ext w5 w6) => RdS.dropIf (j := k) (HP5.out.ext h6) HNL.out.symm (by omega))
        have hk7 : k + 1 ≤ 1000000 := by have := HLN.out; rw [← HNL.out] at this; omega
        have hk8 : n + 1 ≤ 1000000 := by have := HLN.out; rw [← HNL.out] at this; omega
        go_wp2_with (first | (at_builtin; (refine wpList_appRd HW0.out HP5'.out (show 0 + (N.take k).length = k by rw [HTL.out]; omega) rfl rfl hk6 ?_; intro v6 w6 r1; have HR6 := Lib.hid r1; have q1 := cell_ext (HCL.out k x HX.out) (HE5.out.trans HR6.out.ext); clear r1)) | (at_builtin; (refine wpList_appRd (HR6.out.mono ((ExtR w6).alloc (.cells #[.string x] 9))) (rds_lit w6 [x] 9) (show k + 1 = k + 1 from rfl) rfl rfl hk7 ?_; intro v7 w7 r1; have HR7 := Lib.hid r1; clear r1)) | (at_builtin; (refine wpList_appRd HR7.out (HPD.out w7 HR7.out.ext) (show k + 1 + (N.drop k).length = n + 1 by rw [HDL.out _ (by omega)]; omega) rfl rfl hk8 ?_; intro v8 w8 r1; have HR8 := Lib.hid r1; clear r1)))
        all_goals
          have HOD := Lib.hid (show SRow w5 w8 v8 (n + 1) (N.take k ++ [x] ++ N.drop k) from by have h := HR8.out; rw [List.nil_append, ← List.map_append, ← List.map_append] at h; exact h)
          have HEN := Lib.hid (HE3.out.trans (HE5.out.trans HOD.out.ext))
          have hvf := verify_c w8 (HC.out.ext HEN.out) (rt) key HK.out v8 (N.take k ++ [x] ++ N.drop k) (SRow.rd HOD.out) (fun t ht => (HGN.out).ext HEN.out t (by rcases List.mem_append.1 ht with h | h; (rcases List.mem_append.1 h with h | h; exact List.mem_of_mem_take h; rw [List.mem_singleton.1 h]; exact HXM.out); exact List.mem_of_mem_drop h))
          have hpr : verV (proveR (rt) key (N.take k ++ [x] ++ N.drop k)) = .tuple #[.agg (clmL none).toArray, .int .i64 10] := by
            have h2 : (proveR (rt) key (N.take k ++ [x] ++ N.drop k)).2 = false := (by rw [HRT.out, HNN.out]; exact turn_twice w HM.out.ok (by rw [← HNN.out]; exact HX.out) HDN.out)
            unfold verV; rw [if_neg (by rw [h2]; decide)]; rfl
          rw [hpr] at hvf
          clear hpr
          refine hvf.mono ?_
          rintro e u1 ⟨rfl, hE⟩
          have HEQ := Lib.hid (HEN.out.trans hE)
          clear hvf hE
          have hq := eql_clmV none none
          unfold clmV clmL at hq
          go_wp2_with (first | (refine wpList_new Tryz.allocClaim rfl rfl ?_; intro W6 hB6 hE6) | (refine wpList_fill (old := clmL none) (vs := clmL none) rfl rfl rfl rfl hB6 rfl (by rw [clm_len]; exact Tryz.szClaim) (clm_one _) ?_; intro W7 hB7 hE7) | (refine wpList_load_known 47 (.tmp 21) rfl rfl _ _ rfl (run_load_clm hB7) ?_; unfold clmV clmL))
          go_ret
          exact ⟨rfl, HEQ.out.trans (hE6.trans' hE7 (fun x hx e => by have e : x = u1.heap.size := e; omega))⟩
      | 3, _ =>
        have HPD := Lib.hid (fun w6 (h6 : Ext w5 w6) => RdS.dropIf (j := k) (HP5.out.ext h6) HNL.out.symm (by omega))
        have hk7 : n ≤ 1000000 := by have := HLN.out; rw [← HNL.out] at this; omega
        go_wp2_with (first | (at_builtin; (refine wpList_appRd HW0.out HP5'.out (show 0 + (N.take k).length = k by rw [HTL.out]; omega) rfl rfl hk6 ?_; intro v6 w6 r1; have HR6 := Lib.hid r1; clear r1)) | (at_builtin; (refine wpList_appRd HR6.out (HPD.out w6 HR6.out.ext) (show k + (N.drop k).length = n by rw [HDL.out _ (by omega)]; omega) rfl rfl hk7 ?_; intro v7 w7 r1; have HR7' := Lib.hid r1; clear r1)))
        all_goals
          have hx4 : Ext w7 (w7.alloc (.cells #[.string rt] 9)) := (ExtR w7).alloc _
          refine (of_t _ _ [rt] (by simp) (rds_lit w7 [rt] 9) (HC.out.ext (HE3.out.trans (HE5.out.trans (HR7'.out.ext.trans hx4))))).mono ?_
          rintro e w8 ⟨rfl, hE⟩
          rw [catB_one]
          have HR8 := Lib.hid (HR7'.out.mono (hx4.trans hE))
          clear hE hx4
          go_wp2_with fail
          have HOD := Lib.hid (show SRow w5 w8 v7 n (N.take k ++ N.drop k) from by have h := HR8.out; rw [List.nil_append, ← List.map_append] at h; exact h)
          have HEN := Lib.hid (HE3.out.trans (HE5.out.trans HOD.out.ext))
          have hvf := verify_c w8 (HC.out.ext HEN.out) (shaB rt) key HK.out v7 (N.take k ++ N.drop k) (SRow.rd HOD.out) (fun t ht => (HGN.out).ext HEN.out t (by rwa [List.take_append_drop] at ht))
          have hpr : verV (proveR (shaB rt) key (N.take k ++ N.drop k)) = .tuple #[.agg (clmL none).toArray, .int .i64 10] := by
            have h2 : (proveR (shaB rt) key (N.take k ++ N.drop k)).2 = false := (by rw [List.take_append_drop, HNN.out]; exact turn_root l key _ (by rw [← HRT.out]; exact HSR.out))
            unfold verV; rw [if_neg (by rw [h2]; decide)]; rfl
          rw [hpr] at hvf
          clear hpr
          refine hvf.mono ?_
          rintro e u1 ⟨rfl, hE⟩
          have HEQ := Lib.hid (HEN.out.trans hE)
          clear hvf hE
          have hq := eql_clmV none none
          unfold clmV clmL at hq
          go_wp2_with (first | (refine wpList_new Tryz.allocClaim rfl rfl ?_; intro W6 hB6 hE6) | (refine wpList_fill (old := clmL none) (vs := clmL none) rfl rfl rfl rfl hB6 rfl (by rw [clm_len]; exact Tryz.szClaim) (clm_one _) ?_; intro W7 hB7 hE7) | (refine wpList_load_known 47 (.tmp 21) rfl rfl _ _ rfl (run_load_clm hB7) ?_; unfold clmV clmL))
          go_ret
          exact ⟨rfl, HEQ.out.trans (hE6.trans' hE7 (fun x hx e => by have e : x = u1.heap.size := e; omega))⟩
      | 2, _ =>
        have HWX := Lib.hid (way_size w HM.out.ok (key := key) (x := x) (by rw [← HNN.out]; exact HXM.out))
        obtain ⟨j, hj⟩ : ∃ j, j = by' % x.size := ⟨_, rfl⟩
        have hjx : j < x.size := by rw [hj]; exact Nat.mod_lt _ HWX.out.1
        have hjt : Int.tmod (by' : Int) (x.size : Int) = (j : Int) := by rw [hj]; rfl
        have hby := HA.out.2.1
        have hxs : x.size ≤ 2000 := HWX.out.2
        have bj : (j : Int) < (x.size : Int) := by omega
        have xne : ((x.size : Int) == 0) = false := beq_eq_false_iff_ne.2 (by omega)
        have HJ := Lib.hid hjx
        clear hj
        obtain ⟨c, hcd⟩ : ∃ c, x.data.toList.getD j 0 = c := ⟨_, rfl⟩
        have HPD := Lib.hid (fun w6 (h6 : Ext w5 w6) => RdS.dropIf (j := k + 1) (HP5.out.ext h6) HNL.out.symm (by omega))
        have hk7 : k + 1 ≤ 1000000 := by have := HLN.out; rw [← HNL.out] at this; omega
        have hk8 : n ≤ 1000000 := by have := HLN.out; rw [← HNL.out] at this; omega
        go_wp2_with (first | (at_builtin; (refine wpList_appRd HW0.out HP5'.out (show 0 + (N.take k).length = k by rw [HTL.out]; omega) rfl rfl hk6 ?_; intro v6 w6 r1; have HR6 := Lib.hid r1; have q1 := cell_ext (HCL.out k x HX.out) (HE5.out.trans HR6.out.ext); obtain ⟨c7, W7, W8, hfp⟩ := flip_ok w6 x j hjx; have hcv := hfp.conv; have q7 := hfp.cell; have f7 := hfp.fro; have h88 := hfp.at8; have hcb := hfp.back _ rfl; have HX8 := hfp.ext8; have HFP := Lib.hid hfp; rw [hcd] at q7 h88; rw [h88] at hcb HX8; have HX8 := Lib.hid HX8; have H88 := Lib.hid h88; clear h88; clear r1 hfp)) | (at_builtin; (refine wpList_appRdK (HR6.out.mono (HX8.out.trans ((ExtR _).alloc (.cells #[.string (bitB x j)] 9)))) (rds_litS W7 _ _ [bitB x j] 9) (show k + 1 = k + 1 from rfl) rfl rfl hk7 ?_; intro v7 w7 r1 r2 r3; have HR7 := Lib.hid r1; have HK7 := Lib.hid (And.intro r2 r3); clear r1 r2 r3)) | (at_builtin; (refine wpList_appRdK HR7.out (HPD.out w7 HR7.out.ext) (show k + 1 + (N.drop (k + 1)).length = n by rw [HDL.out _ (by omega)]; omega) rfl rfl hk8 ?_; intro v8 w8 r1 r2 r3; have HR8 := Lib.hid r1; have HK8 := Lib.hid (And.intro r2 r3); clear r1 r2 r3)))
        all_goals
          have hg6 : ∀ b, v6.ownBlock = some b → b < w6.heap.size := fun b hb => HR6.out.lt b hb
          have hsz : w6.heap.size < W7.heap.size := World.block_lt_of_cell? W7 _ q7
          have hgb : w8.heap[w6.heap.size]? = W8.heap[w6.heap.size]? := by
            have h1 := ((ExtR (W7.setCell ⟨w6.heap.size, j, none⟩ (.int .u8 (bits .xor .u8 (c.toNat : Int) 1)))).alloc (.cells #[.string (bitB x j)] 9)).block w6.heap.size (by simp only [World.size_setCell]; exact hsz) (fun h => h)
            have h2 := HK7.out.1.block w6.heap.size (by rw [World.size_alloc, World.size_setCell]; omega) (fun e => by have := hg6 _ e; omega)
            have h3 := HK8.out.1.block w6.heap.size (by have := HK7.out.1.size; rw [World.size_alloc, World.size_setCell] at this; omega) (fun e => by
              rcases HK7.out.2 with h | h
              · rw [h] at e; have := hg6 _ e; omega
              · have := h _ e; rw [World.size_alloc, World.size_setCell] at this; omega)
            rw [h3, h2, h1, H88.out]
          have HGB := Lib.hid hgb
          have QX := Lib.hid (cell_ext (HCL.out k x HX.out) (HE5.out.trans HR8.out.ext))
          obtain ⟨cb, hcbb⟩ : ∃ cb, cb = collB (bitB x j) x := ⟨_, rfl⟩
          have hcol := fun w9 (h9 : Ext w8 w9) => collide_t w9 (bitB x j) x (HC.out.ext ((HE3.out.trans (HE5.out.trans HR8.out.ext)).trans h9))
          rw [show (decide (bitB x j ≠ x) && decide (shaB (bitB x j) = shaB x)) = cb from hcbb.symm] at hcol
          have HCB := Lib.hid hcbb
          have HCOL := Lib.hid hcol
          obtain ⟨b, hbd⟩ : ∃ b, b = bitB x j := ⟨_, rfl⟩
          have HBD := Lib.hid hbd
          have HBK := Lib.hid (fun w9 (h9 : Ext w8 w9) => HFP.out.back w9 (by rw [h9.block w6.heap.size (by have := HR8.out.ext.size; have := HK8.out.1.size; have := HK7.out.1.size; rw [World.size_alloc, World.size_setCell] at this; omega) (fun h => h)]; exact HGB.out))
          rw [← hbd] at HCOL HBK HCB ⊢
          clear hgb hcbb hcol hbd q7 f7 hcb hcv q1 hg6
          go_wp2_with fail
          refine wp_region_mixK [0,1,2,3,4,5,6] Ext ExtR ExtT (by kernel_rfl) (by kernel_rfl) (by kernel_rfl) ?_
          iterate 1 (refine mixk_pure _ rfl (by kernel_rfl) rfl rfl (fun K hK => ?_); go_big_quiet_op; refine hK _ ?_; clear hK K)
          refine mixk_val _ (.string b) rfl (by kernel_rfl) rfl (fun w9 h9 => conv_any rfl (HBK.out w9 ((drewE w8).trans h9))) ?_
          simp only [Act.put, List.setIfInBounds_toArray, List.set_cons_zero, List.set_cons_succ]
          iterate 3 (refine mixk_pure _ rfl (by kernel_rfl) rfl rfl (fun K hK => ?_); go_big_quiet_op; refine hK _ ?_; clear hK K)
          refine mixk_load ⟨bx, ox + k, none⟩ (.string x) rfl (by kernel_rfl) rfl rfl (fun w2 h2 => run_load_plain Tryz.uStr rfl (cell_ext (by exact QX.out) ((drewE w8).trans h2))) ?_
          simp only [Act.put, List.setIfInBounds_toArray, List.set_cons_zero, List.set_cons_succ]
          refine mixk_call _ 31 #[.string b, .string x] (.bool cb) rfl (by kernel_rfl) rfl (fun w1 => exec_call Tryz.enterCollide (by kernel_rfl)) (fun w1 h1 => HCOL.out w1 ((drewE w8).trans h1)) ?_
          simp only [Act.put, List.setIfInBounds_toArray, List.set_cons_zero, List.set_cons_succ]
          refine mixk_end (by kernel_rfl) (fun w9 he => ?_)
          have HX9 := Lib.hid ((drewE w8).trans he)
          clear he QX
          cases cb with
          | true =>
            go_wp2_with fail
            go_ret
            exact ⟨rfl, HE3.out.trans (HE5.out.trans (HR8.out.ext.trans HX9.out))⟩
          | false =>
            have HR9 := Lib.hid (HR8.out.mono HX9.out)
            have HNB := Lib.hid (show shaB b ≠ shaB x from fun e => by
              have h := HCB.out
              unfold collB at h
              rw [e, decide_eq_true rfl, Bool.and_true, HBD.out] at h
              exact bitB_ne HJ.out (Decidable.not_not.1 (of_decide_eq_false h.symm)))
            go_wp2_with fail
            have HOD := Lib.hid (show SRow w5 w9 v8 n (N.take k ++ [b] ++ N.drop (k + 1)) from by have h := HR9.out; rw [List.nil_append, ← HBD.out, ← List.map_append, ← List.map_append] at h; exact h)
            have HEN := Lib.hid (HE3.out.trans (HE5.out.trans HOD.out.ext))
            have hvf := verify_c w9 (HC.out.ext HEN.out) (rt) key HK.out v8 (N.take k ++ [b] ++ N.drop (k + 1)) (SRow.rd HOD.out) (fun t ht => by
                rcases List.mem_append.1 ht with h | h
                · rcases List.mem_append.1 h with h | h
                  · exact HGN.out.ext HEN.out t (List.mem_of_mem_take h)
                  · rw [List.mem_singleton.1 h]
                    rcases get_is b (by rw [HBD.out, bitB_size]; omega) with h | h
                    · exact .inl h
                    · exact .inr ⟨HG.out.ext HEN.out, h⟩
                · exact HGN.out.ext HEN.out t (List.mem_of_mem_drop h))
            have hpr : verV (proveR (rt) key (N.take k ++ [b] ++ N.drop (k + 1))) = .tuple #[.agg (clmL none).toArray, .int .i64 10] := by
              have h2 : (proveR (rt) key (N.take k ++ [b] ++ N.drop (k + 1))).2 = false := by rw [HRT.out, HNN.out]; exact turn_bit w HM.out.ok (by rw [← HNN.out]; exact HX.out) HNB.out
              unfold verV; rw [if_neg (by rw [h2]; decide)]; rfl
            rw [hpr] at hvf
            clear hpr
            refine hvf.mono ?_
            rintro e u1 ⟨rfl, hE⟩
            have HEQ := Lib.hid (HEN.out.trans hE)
            clear hvf hE
            have hq := eql_clmV none none
            unfold clmV clmL at hq
            go_wp2_with (first | (refine wpList_new Tryz.allocClaim rfl rfl ?_; intro W6 hB6 hE6) | (refine wpList_fill (old := clmL none) (vs := clmL none) rfl rfl rfl rfl hB6 rfl (by rw [clm_len]; exact Tryz.szClaim) (clm_one _) ?_; intro W7 hB7 hE7) | (refine wpList_load_known 47 (.tmp 21) rfl rfl _ _ rfl (run_load_clm hB7) ?_; unfold clmV clmL))
            go_ret
            exact ⟨rfl, HEQ.out.trans (hE6.trans' hE7 (fun x hx e => by have e : x = u1.heap.size := e; omega))⟩
end
end Go.Proofs.YtjogjmffkmfmbaaGreatDoor
/- ProofTurned, the card: the law is true for every input. -/
namespace Go.Proofs.YtjogjmffkmfmbaaGreatDoor
section
open Go Go.ChangeShapes Go.WideShapes Go.ChangeAt Go.RowKit Go.ChangeMaps
set_option linter.unusedSimpArgs false
set_option linter.unusedVariables false
set_option maxRecDepth 100000 in
theorem proofTurned_contract (H : Type) (enc : TypeId × Value → H) (W : World) (base : Nat) (args : Array Value) (ds gs : List (DataW H)) (before : List MemPlace)
    (hval : ∀ (j : Nat) t v, Tryz.f7.params[j]? = some t → args[j]? = some v → Value.okWide Tryz.prog W .any base t v)
    (hW : DataW.Whole enc Tryz.prog Tryz.f7.params.toList Rows.proofTurnedSpec.vars false W args.toList ds gs before) (hL : laidMetH Tryz.prog Rows.proofTurnedRow.laid W) :
    Calls Tryz.prog 7 args W fun e W' => ∃ v, e = .returned v ∧ Rows.proofTurnedSpec.post enc Tryz.prog Tryz.f7 false true false false W args v W' := by
  have hW' := hW
  obtain ⟨p, q, hA0, hV, rfl, hfz, hnd⟩ := hW
  have hA : DataW.TrodAll enc Tryz.prog W 0 (fun _ => true) true Tryz.f7.params.toList args.toList ds p := hA0
  rw [Tryz.params7] at hA hval
  obtain ⟨v0, v1, v2, v3, v4, d0, d1, d2, d3, d4, p0, p1, p2, p3, p4, rfl, rfl, rfl, h0, h1, h2, h3, h4⟩ := trodAll_five hA
  obtain ⟨rfl, rfl⟩ := trodVars_none hV
  obtain ⟨l0, hl0, hn0, hs0⟩ := open_entries (okWide_slice Tryz.underlying29 (hval 0 29 v0 rfl rfl)) h0
  obtain ⟨s1, rfl, rfl, rfl, ws1⟩ := open_string Tryz.underlying9 (hval 1 9 v1 rfl rfl) h1
  have hk1 := Nat.le_trans ws1 maxLen_big
  obtain ⟨s2, rfl, rfl, rfl, ws2⟩ := open_int Tryz.underlying5 (hval 2 5 v2 rfl rfl) h2
  obtain ⟨u2, rfl, hu2⟩ := u8_nat ws2
  obtain ⟨s3, rfl, rfl, rfl, ws3⟩ := open_int Tryz.underlying5 (hval 3 5 v3 rfl rfl) h3
  obtain ⟨u3, rfl, hu3⟩ := u8_nat ws3
  obtain ⟨s4, rfl, rfl, rfl, ws4⟩ := open_int Tryz.underlying5 (hval 4 5 v4 rfl rfl) h4
  obtain ⟨u4, rfl, hu4⟩ := u8_nat ws4
  clear hA0
  simp only [List.append_nil, List.nil_append] at hW'
  have hlt : ∀ x ∈ p0, x.block < W.heap.size := fun x hx => by simpa using hW'.lt x (by simpa using hx)
  refine (turned_c W (cubes_of hL) (err_of hL) v0 l0 s1 u2 u3 u4 hl0 hn0 hs0 hu2 hu3 hu4).mono fun e W' ⟨he, hE⟩ => ?_
  subst he
  have hb : Below W.heap.size W W' := ⟨hE.os, hE.tape, hE.output, hE.size, fun k hk => hE.block k hk (fun h => h)⟩
  have hres : DataW.TrodAll enc Tryz.prog W' 0 (fun b => decide (b < W.heap.size)) true [29, 9, 5, 5, 5] [v0, .string s1, .int .u8 (u2 : Int), .int .u8 (u3 : Int), .int .u8 (u4 : Int)] [d0, .lit (.string s1.data.toList), .lit (.int .u8 (u2 : Int)), .lit (.int .u8 (u3 : Int)), .lit (.int .u8 (u4 : Int))] (p0) := by
    simpa using trodAll_mk5 (Below.trod Tryz.laidOutK (by kernel_rfl) (of_decide_eq_true (by kernel_rfl)) h0 hb (fun x hx => hlt x (by simp [hx]))) (shut_string Tryz.underlying9 ws1) (shut_int Tryz.underlying5 ws2) (shut_int Tryz.underlying5 ws3) (shut_int Tryz.underlying5 ws4)
  refine ⟨_, rfl, _, _, _, [], p0, [], hW', trodAll_mk1 (shut_bool Tryz.underlying4 _), ?_, rfl, hb.frame _, fun h => by cases h⟩
  exact hres
set_option maxRecDepth 100000 in
theorem proofTurned_reads (os : Os) {H : Type} (enc : TypeId × Value → H) : ∃ places, DataW.whole enc Tryz.prog ((laidWorld os).forCall (fun _ _ => 0) ⟨#[], #[.slice none 0 0, .string ⟨#[]⟩, .int .u8 0, .int .u8 0, .int .u8 0], []⟩).memory Tryz.f7.params.toList Rows.proofTurnedSpec.vars false #[.slice none 0 0, .string ⟨#[]⟩, .int .u8 0, .int .u8 0, .int .u8 0].toList 8 = some ([.nil, .lit (.string []), .lit (.int .u8 0), .lit (.int .u8 0), .lit (.int .u8 0)], [], places) :=
  ⟨[], by kernel_rfl⟩
set_option maxRecDepth 100000 in
theorem proofTurned_lifted (os : Os) (started : os.Started) (H : Type) (enc : TypeId × Value → H) (F : Stop.Interp) :
    ReturnsInHanded {} Tryz.checked os 7 .any ((OpenSpec.ofChange Rows.proofTurnedSpec).preRow enc Tryz.prog Tryz.f7 Rows.proofTurnedRow.domain false Rows.proofTurnedRow.laid) (((OpenSpec.ofChange Rows.proofTurnedSpec).at F).post enc Tryz.prog Tryz.f7 false true false false) := by
  obtain ⟨places, hx⟩ := proofTurned_reads os enc
  refine returnsInHanded_of_row (C := Tryz.checked) (s := OpenSpec.ofChange Rows.proofTurnedSpec) Tryz.ownK started (by kernel_rfl) Tryz.func7
    (witness_row_at (enc := enc) (C := Tryz.checked) false (laidWorld os) #[.slice none 0 0, .string ⟨#[]⟩, .int .u8 0, .int .u8 0, .int .u8 0] rfl (by kernel_rfl) (by kernel_rfl) (by kernel_rfl)
      (OpenSpec.preRow_of_cond 8 hx (by kernel_rfl) (fun k hk => by cases hk) (by kernel_rfl) (laid_met os _))) ?_
  intro W base args ds gs before hval hW _ _ _ hL _ _
  exact proofTurned_contract H enc W base args ds gs before hval hW hL
theorem proofTurned_said : Rows.ProofTurnedSaid :=
  OpenClaim.holds_of_cond 7 Tryz.f7 rfl rfl rfl rfl rfl rfl rfl ⟨rfl, rfl, rfl, rfl, rfl⟩ rfl rfl rfl rfl rfl (by kernel_rfl) Tryz.func7 (by kernel_rfl)
    (of_decide_eq_true (by kernel_rfl)) (by unfold Func.isWrapper; first | (rw [if_pos (by decide +kernel)]; kernel_rfl) | (rw [if_neg (by decide +kernel)]; exact ⟨rfl, rfl⟩))
    (fun os started H enc _ F => by rw [OpenClaim.pre_eq_preRow]; exact proofTurned_lifted os started H enc F)
theorem proofTurnedCard_holds : Rows.ProofTurnedCardSaid :=
  Claim7.holds_tied_plain_at .later [] [.handle, .data] true (true, "b7bd1e2e29b688aa281167e6180871ca34643c5c354714fdb60332ef6a4a105a") true
    proofTurned_said (fun _ h => by cases h) (by kernel_rfl) (fun _ h => by cases h) proofTurned_row_tie rfl ⟨rfl, rfl⟩ (by kernel_rfl) rfl
    (fun f fn hf hfn => by
      obtain rfl : f = 7 := Option.some.inj ((show Tryz.prog.funcNamed "guilloche/guillochelaw11.ProofTurned" = some 7 by kernel_rfl).symm.trans hf) |>.symm
      obtain rfl : fn = Tryz.f7 := (Option.some.inj (Tryz.func7.symm.trans hfn)).symm
      exact ⟨by kernel_rfl, fun j t ht => by
        rw [Tryz.params7] at ht
        have hm : t ∈ [29, 9, 5, 5, 5] := by simpa using Array.mem_of_getElem? ht
        have hall : ([29, 9, 5, 5, 5].all fun u => !Tryz.prog.wantsStandIn u) = true := by kernel_rfl
        exact (show Tryz.prog.wantsStandIn t = false by simpa using List.all_eq_true.1 hall t hm)⟩)
    (by kernel_rfl)
end
end Go.Proofs.YtjogjmffkmfmbaaGreatDoor
