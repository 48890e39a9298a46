/- Parts of the proof, one behind the other: AddA, AddB, AddC, AddD, StoreAh, StoreI, StoreJ, StoreL, StoreM. Each is under no condition but those that it states. -/
import Derived.Test.YtjogjmffkmfmbaaGreatDoorPc25
import Derived.Test.YtjogjmffkmfmbaaGreatDoorPc32
import Derived.Test.YtjogjmffkmfmbaaGreatDoorPc21
import Derived.WalkMore
/- store: read, of any texts. -/
namespace Go.Proofs.YtjogjmffkmfmbaaGreatDoor
section
open Go Go.RowKit
set_option linter.unusedSimpArgs false
set_option linter.unusedVariables false
attribute [local go_sem] Oper.semAt_some
/-! In what block an item's row lies. -/
def RowOf (W : World) (b c : Nat) : Prop := ∃ rv, W.cell? ⟨b, 1, none⟩ = some rv ∧ rv.ownBlock = some c
/-- No row of what was there has come to lie elsewhere. -/
def RK (w W : World) : Prop := w.heap.size ≤ W.heap.size ∧ ∀ b, b < w.heap.size → ∀ c, RowOf W b c → RowOf w b c
theorem cell_heap {W W' : World} {b i : Nat} (h : W'.heap[b]? = W.heap[b]?) : W'.cell? ⟨b, i, none⟩ = W.cell? ⟨b, i, none⟩ := by unfold World.cell?; rw [h]
theorem RK.refl (w : World) : RK w w := ⟨Nat.le_refl _, fun _ _ _ h => h⟩
theorem RK.trans {a b c : World} (h : RK a b) (k : RK b c) : RK a c := ⟨Nat.le_trans h.1 k.1, fun x hx y r => h.2 x hx y (k.2 x (Nat.lt_of_lt_of_le hx h.1) y r)⟩
theorem RK.keeps {F : BSet} {w W W' : World} (h : RK w W) (k : Keeps F W W') (hF : ∀ b, F b → w.heap.size ≤ b) : RK w W' := ⟨Nat.le_trans h.1 k.size, fun b hb c r => by
  obtain ⟨rv, h1, h2⟩ := r
  rw [cell_heap (k.block b (Nat.lt_of_lt_of_le hb h.1) (fun f => by have := hF b f; omega))] at h1
  exact h.2 b hb c ⟨rv, h1, h2⟩⟩
theorem RK.ext {w W W' : World} (h : RK w W) (e : Ext W W') : RK w W' := h.keeps e (fun _ f => f.elim)
theorem RK.put {w W W' : World} {bm : Nat} {es : Array MapEntry} {ck : Nat} (h : RK w W) (k : Keeps (fun z => z = bm) W W') (hm : Blk W' bm (.map es ck)) : RK w W' := ⟨Nat.le_trans h.1 k.size, fun b hb c r => by
  obtain ⟨rv, h1, h2⟩ := r
  by_cases e : b = bm
  · subst e
    unfold World.cell? at h1
    rw [show W'.heap[b]? = _ from hm] at h1
    cases h1
  · rw [cell_heap (k.block b (Nat.lt_of_lt_of_le hb h.1) e)] at h1
    exact h.2 b hb c ⟨rv, h1, h2⟩⟩
theorem RK.set {w W : World} (h : RK w W) (zb : Nat) {f : Nat} (hf : f = 2 ∨ f = 3) (v : Value) : RK w (W.setCell ⟨zb, f, none⟩ v) := ⟨by rw [World.size_setCell]; exact h.1, fun b hb c r => by
  obtain ⟨rv, h1, h2⟩ := r
  rw [World.cell?_setCell_other _ _ _ _ (fun e => by have := congrArg Addr.off e; rcases hf with rfl | rfl <;> cases this)] at h1
  exact h.2 b hb c ⟨rv, h1, h2⟩⟩
/-- The rows of these items are new. -/
def RowsN (w W : World) (G : List Nd5) : Prop := ∀ x ∈ G, ∀ c, RowOf W x.2.1 c → w.heap.size ≤ c
theorem RowsN.rk {w W W' : World} {G : List Nd5} (h : RowsN w W G) (hk : RK W W') (hl : ∀ x ∈ G, x.2.1 < W.heap.size) : RowsN w W' G := fun x hx c r => h x hx c (hk.2 _ (hl x hx) c r)
/-- Texts, each a node, or one that Get refuses. -/
def AnyL (L : List ByteArray) : Prop := ∀ t ∈ L, (∃ n, IsNode t n) ∨ GetE t
theorem any_size {L : List ByteArray} (h : ∀ t ∈ L, t.size ≤ 400000) : AnyL L := fun t ht => get_is t (h t ht)
def ReRelA (w : World) (bg : Nat) (L : List ByteArray) (iv : Value) (W : World) : Prop := ∃ i : Nat, i ≤ L.length ∧ iv = .int .i64 i ∧ (∀ t ∈ L.take i, ∃ n, IsNode t n) ∧ ∃ G, ReS w bg G (L.take i) W ∧ RowsN w W G
def RdA (w : World) (L : List ByteArray) (e : Ending) (w' : World) : Prop := (e = .returned (.tuple #[.map none, .int .i64 2]) ∧ Ext w w') ∨ ((∀ t ∈ L, ∃ n, IsNode t n) ∧ ∃ bg G, e = .returned (.tuple #[.map (some bg), .int .i64 0]) ∧ ReS w bg G L w' ∧ RowsN w w' G)
theorem take_all {L : List ByteArray} {i : Nat} {t : ByteArray} {P : ByteArray → Prop} (h : ∀ x ∈ L.take i, P x) (ht : L[i]? = some t) (hp : P t) : ∀ x ∈ L.take (i + 1), P x := fun x hx => by
  rw [List.take_add_one, ht] at hx
  rcases List.mem_append.1 hx with hx | hx
  · exact h x hx
  · have hx : x ∈ [t] := hx
    rw [List.mem_singleton.1 hx]; exact hp
set_option maxRecDepth 100000 in
set_option maxHeartbeats 8000000 in
theorem sread_any (w : World) (hc : Cubes w) (hGE : ErrT w) (v : Value) (L : List ByteArray) (hv : RdS w v L) (hl : L.length ≤ 1000) (h0 : L ≠ []) (hN : AnyL L) :
    Calls Tryz.prog 50 #[v] w (RdA w L) := by
  have hpos : 0 < L.length := List.length_pos_iff.2 h0
  obtain ⟨a, c, rfl, _⟩ := hv.slice
  have HL3 := Lib.hid hv
  have HC := Lib.hid hc
  have HN := Lib.hid hN
  have HGE := Lib.hid hGE
  have hmm := Tryz.makeMapIt w
  clear hv hc hN h0 hGE
  have hb0 : ((L.length : Int) == 0) = false := by simpa using (by omega : L.length ≠ 0)
  go_enter Tryz.func50, Tryz.ntmps50
  go_wp2_with fail
  obtain ⟨bg, hbg⟩ : ∃ bg, bg = w.heap.size := ⟨_, rfl⟩
  have HBG := Lib.hid hbg
  rw [← hbg]
  clear hbg hmm
  go_loopw [16] (fun iv wr => ReRelA w bg L iv wr) (fun iv _ => L.length - (intOf iv).toNat)
  case atStart =>
    refine ⟨0, Nat.zero_le _, rfl, fun t ht => (by cases ht), [], ⟨(ExtR w).alloc _, ⟨⟨[], 0, ?_, MapV.nil 0⟩, by simp, fun x hx => by cases hx⟩, rfl, by rw [HBG.out]; exact Nat.le_refl _, fun x hx => by cases hx⟩, fun x hx => by cases hx⟩
    rw [HBG.out]; exact Blk.new w _
  case round =>
    obtain ⟨i, hi, rfl, hall, G, hS, hrn⟩ := hrel
    have HRN := Lib.hid hrn
    clear hrn
    have HALL := Lib.hid hall
    have HSR := Lib.hid hS
    clear hS hall
    by_cases hlt : i < L.length
    · have b1 : (i : Int) < (L.length : Int) := by omega
      obtain ⟨t, ht⟩ : ∃ t, L[i]? = some t := ⟨_, List.getElem?_eq_getElem hlt⟩
      obtain ⟨ax, cx, hh, hcell⟩ := HL3.out.slice
      obtain ⟨ba, oa, hao, hqa⟩ := hcell i t ht
      subst hao
      cases hh
      have q1 := cell_ext hqa HSR.out.ext
      rcases HN.out t (List.mem_of_getElem? ht) with hnode | hbad
      case inr =>
        have HBAD := Lib.hid hbad
        obtain ⟨n, hn⟩ : ∃ n, n = emptyN := ⟨_, rfl⟩
        have HRF := Lib.hid (show n.refs.length = 16 by rw [hn]; rfl)
        have hg := HBAD.out wr (HGE.out.ext HSR.out.ext)
        unfold GetNo at hg
        rw [← hn] at hg
        clear hcell hqa ht hbad hn
        go_wp2_with fail
        refine hg.mono ?_
        rintro e w4 ⟨rfl, hE⟩
        have HX4 := Lib.hid (HSR.out.ext.trans hE)
        clear hE hg q1
        unfold NodeT.V
        go_wp2_with (refine wpList_new Tryz.allocNode rfl rfl ?_; intro W3 hB3 hE3; refine wpList_fill (vs := n.cells) rfl rfl rfl rfl hB3 (by rw [n.cells_len HRF.out]; rfl) (by rw [n.cells_len HRF.out]; exact Tryz.szNode) (NodeT.one _) ?_; intro W4 hB4 hE4; have hE34 : Ext w4 W4 := hE3.trans' hE4 (fun x hx e => by have e : x = w4.heap.size := e; omega))
        go_ret2
        exact .inl ⟨rfl, HX4.out.trans hE34⟩
      have HALL2 := Lib.hid (take_all HALL.out ht hnode)
      obtain ⟨n0, hn0⟩ := hnode
      have hIs := nodeOf_is hn0
      have HTS := Lib.hid (readG_step ht)
      have HIT := Lib.hid (show itOf t = ⟨t, hashesT (nodeOf t), 0, 0⟩ from rfl)
      obtain ⟨n, hnn⟩ : ∃ n, n = nodeOf t := ⟨_, rfl⟩
      rw [← hnn] at hIs HIT
      have h16 := hashesT_len hIs
      obtain ⟨htx, g, hg⟩ := hIs
      have HG := Lib.hid hg
      have HRF := Lib.hid ((hg.one (inlP g)).refs)
      have HTX := Lib.hid htx
      clear hcell hn0 hnn htx hg hqa ht
      go_wp2_with fail
      rw [HTX.out]
      refine (get_c4 (inlP g) wr n HG.out).mono ?_
      rintro e w4 ⟨rfl, hE⟩
      rw [← HTX.out]
      have HX4 := Lib.hid hE
      clear hE q1
      unfold NodeT.V
      go_wp2_with (refine wpList_new Tryz.allocNode rfl rfl ?_; intro W3 hB3 hE3; refine wpList_fill (vs := n.cells) rfl rfl rfl rfl hB3 (by rw [n.cells_len HRF.out]; rfl) (by rw [n.cells_len HRF.out]; exact Tryz.szNode) (NodeT.one _) ?_; intro W4 hB4 hE4; have hE34 : Ext w4 W4 := hE3.trans' hE4 (fun x hx e => by have e : x = w4.heap.size := e; omega))
      have HX5 := Lib.hid (HX4.out.trans hE34)
      have HB5 := Lib.hid hB4
      clear hB3 hE3 hB4 hE4 hE34 HX4
      refine (of_t _ _ [t] (by simp) (rds_lit W4 [t] 9) (HC.out.ext ((HSR.out.ext.trans HX5.out).alloc _))).mono ?_
      rintro e w6 ⟨rfl, hE⟩
      rw [catB_one]
      have hx6 := ((ExtR W4).alloc (.cells #[.string t] 9)).trans hE
      have HX6 := Lib.hid (HX5.out.trans hx6)
      have HB6 := Lib.hid (HB5.out.keeps hx6 (fun h => h))
      have HS6 := Lib.hid (HSR.out.keeps HX6.out)
      have hlk := HS6.out.at'.look (shaB t) false
      have HNA := Lib.hid (atL_any (L := G) (k := ky t))
      have HKY := Lib.hid (show (shaB t).data.toList = ky t from rfl)
      have HAD := Lib.hid (show addG (G.map kvI) t = if (G.map kvI).any (fun x => decide (ky t = x.1)) then G.map kvI else G.map kvI ++ [(ky t, itOf t)] from rfl)
      rw [HKY.out] at hlk
      simp only [Bool.false_eq_true, if_false] at hlk
      obtain ⟨sh, hsh⟩ : ∃ sh, sh = shaB t := ⟨_, rfl⟩
      rw [← hsh] at hlk HKY ⊢
      obtain ⟨kt, hkt⟩ : ∃ kt, kt = ky t := ⟨_, rfl⟩
      rw [← hkt] at hlk HKY HNA HAD
      clear hE hx6 HX5 HB5 hsh hkt
      cases ha : atL G kt with
      | some x =>
        rw [ha] at hlk
        unfold ptrO at hlk
        simp only at hlk
        have hz : addG (G.map kvI) t = G.map kvI := by rw [HAD.out, HNA.out, ha]; rfl
        have HZ := Lib.hid hz
        clear ha hz
        go_wp2_with fail
        go_roundw
        case rel =>
         exact ⟨i + 1, by omega, by go_num, HALL2.out, G, ⟨HS6.out.ext, HS6.out.at', by rw [HTS.out, ← HS6.out.is, HZ.out], HS6.out.new, HS6.out.news⟩, HRN.out.rk ((RK.refl _).ext HX6.out) (fun x hx => (HSR.out.at'.items x hx).lt)⟩
        case measure => simp [intOf]; omega
      | none =>
        rw [ha] at hlk
        unfold ptrO at hlk
        simp only at hlk
        have hz : addG (G.map kvI) t = G.map kvI ++ [(kt, itOf t)] := by rw [HAD.out, HNA.out, ha]; rfl
        have HZ := Lib.hid hz
        have HA := Lib.hid ha
        have hld6 := run_load_api w6 _ n HRF.out HB6.out
        unfold NodeT.V at hld6
        clear ha hz
        go_wp2_with (refine wpList_load_known 108 (.tmp 7) rfl rfl _ _ rfl hld6 ?_)
        refine (hashes_c g n HG.out w6).mono ?_
        rintro e w8 ⟨v8, rfl, hR8, hnil⟩
        have hE8 := hR8.ext
        have hnew8 := hR8.new
        have hown := hR8.own
        obtain ⟨a8, c8, rfl⟩ := hR8.sl
        have S8 := HS6.out.keeps hE8
        have hA9 := S8.at'.ext ((ExtR w8).alloc (.cells #[.string t, .slice a8 (hashesT n).length c8, .int .i64 0, .int .i64 0] 101))
        have hb9 := Blk.new w8 (.cells #[.string t, .slice a8 (hashesT n).length c8, .int .i64 0, .int .i64 0] 101)
        have hi9 : ItemAt (w8.alloc (.cells #[.string t, .slice a8 (hashesT n).length c8, .int .i64 0, .int .i64 0] 101)) w8.heap.size (itOf t) := by
          rw [HIT.out]
          exact ⟨_, hb9, own_ext hown ((ExtR w8).alloc _)⟩
        obtain ⟨ob, hmu, hA10⟩ := hA9.put sh (by rw [HKY.out]; exact HA.out) hi9 (fun x hx e => by have := (S8.at'.items x hx).lt; omega)
        rw [HKY.out] at hA10
        have hE10 : Ext w ((w8.alloc (.cells #[.string t, .slice a8 (hashesT n).length c8, .int .i64 0, .int .i64 0] 101)).putObj bg ob) := (S8.ext.alloc _).putObj (.inr S8.new) _
        have hsz6 := S8.ext.size
        have hrk8 : RK wr w8 := ((RK.refl _).ext HX6.out).ext hE8
        have hobm : ∃ es ck, Blk ((w8.alloc (.cells #[.string t, .slice a8 (hashesT n).length c8, .int .i64 0, .int .i64 0] 101)).putObj bg ob) bg (.map es ck) := by
          obtain ⟨es, ck, h1, _⟩ := hA10.mp
          exact ⟨_, ck, h1⟩
        obtain ⟨oes, ock, hobm⟩ := hobm
        have hrk10 := (hrk8.ext ((ExtR w8).alloc (.cells #[.string t, .slice a8 (hashesT n).length c8, .int .i64 0, .int .i64 0] 101))).put (Keeps.onePut _ bg ob) hobm
        have HRN10 := Lib.hid (show RowsN w ((w8.alloc (.cells #[.string t, .slice a8 (hashesT n).length c8, .int .i64 0, .int .i64 0] 101)).putObj bg ob) (G ++ [(kt, w8.heap.size, itOf t)]) from fun x hx c r => by
          rcases List.mem_append.1 hx with hx | hx
          · exact HRN.out.rk hrk10 (fun x hx => (HSR.out.at'.items x hx).lt) x hx c r
          · rw [List.mem_singleton.1 hx] at r
            obtain ⟨rv, r1, r2⟩ := r
            have hne : w8.heap.size ≠ bg := fun e => by
              obtain ⟨_, _, h1, _⟩ := S8.at'.mp
              have := h1.lt; omega
            have hq : ((w8.alloc (.cells #[.string t, .slice a8 (hashesT n).length c8, .int .i64 0, .int .i64 0] 101)).putObj bg ob).cell? ⟨w8.heap.size, 1, none⟩ = some (.slice a8 (hashesT n).length c8) := (hb9.keeps (Keeps.onePut _ bg ob) hne).cell (i := 1) (by rfl)
            have r1 : _ = some rv := r1
            rw [hq] at r1
            have e := Option.some.inj r1
            rw [← e] at r2
            have := hnew8 c r2
            have := HS6.out.ext.size
            omega)
        have HE10 := Lib.hid hE10
        have HA10 := Lib.hid hA10
        have HNW := Lib.hid (show w.heap.size ≤ w8.heap.size from S8.ext.size)
        clear hrk8 hobm hrk10 hsz6 hE10 hA10 hi9 hb9 hA9 S8 hown hnew8 hE8 hR8 hnil hld6 hlk
        go_wp2_with fail
        go_roundw
        case rel =>
          refine ⟨i + 1, by omega, by go_num, HALL2.out, G ++ [(kt, w8.heap.size, itOf t)], ⟨HE10.out, HA10.out, ?_, HS6.out.new, ?_⟩, HRN10.out⟩
          · rw [HTS.out, ← HS6.out.is, HZ.out, List.map_append]; rfl
          · intro x hx
            rcases List.mem_append.1 hx with hx | hx
            · exact HS6.out.news x hx
            · simp only [List.mem_singleton] at hx; subst hx; exact HNW.out
        case measure => simp [intOf]; omega
    · have hie : i = L.length := by omega
      subst hie
      have HS := Lib.hid (show ReS w bg G L wr by have := HSR.out; rwa [List.take_length] at this)
      clear HSR
      go_wp2_with fail
      go_ret2
      exact .inr ⟨by have h := HALL.out; rwa [List.take_length] at h, bg, G, rfl, HS.out, HRN.out⟩
end
end Go.Proofs.YtjogjmffkmfmbaaGreatDoor
/- store: reached, its meet, of any refs. -/
namespace Go.Proofs.YtjogjmffkmfmbaaGreatDoor
section
open Go Go.RowKit
set_option linter.unusedSimpArgs false
set_option linter.unusedVariables false
attribute [local go_sem] Oper.semAt_some
/-- Is a hash that is met known, or given? -/
def okM (S G : List Nd5) (M : List ByteArray) (x : ByteArray) : Bool := memB (firsts M) x || (atL S x.data.toList).isSome || (atL G x.data.toList).isSome
set_option maxRecDepth 100000 in
set_option maxHeartbeats 8000000 in
theorem meet_any (w0 : World) (s bm : Nat) (room : Int) (S G : List Nd5) (bg b : Nat) (h : StoreAt w0 s bm room S) (hG : MapAt w0 bg G) (W : World) (M : List ByteArray) (hM : Meet w0 s S bg b M W) (x : ByteArray) (hl : M.length ≤ 1000000) :
    Calls Tryz.prog 88 #[.string x, .pointer (some ⟨b + 4, 0, none⟩), .pointer (some ⟨b, 0, none⟩), .pointer (some ⟨b + 2, 0, none⟩), .pointer (some ⟨b + 1, 0, none⟩)] W fun e w' => e = .returned (.bool (okM S G M x)) ∧ Meet w0 s S bg b (M ++ [x]) w' := by
  have HM := Lib.hid hM
  have HS := Lib.hid h
  obtain ⟨es, ck, h5, h6⟩ := hM.tab
  obtain ⟨v, n, h1, h2, h3, h4⟩ := hM.var
  obtain ⟨ad, cp, rfl⟩ := row_slice h2
  obtain ⟨cn, hcn⟩ : ∃ cn, cn = cntB M x := ⟨_, rfl⟩
  have hcl : cn ≤ 1000000 := by
    rw [hcn]; unfold cntB
    refine Nat.le_trans List.count_le_length ?_
    rw [List.length_map]; exact hl
  have e6 := h6 x
  rw [← hcn] at e6
  have hlk : (Instr.lookup 131 (.map (some (b + 3))) (.string x) false).run Tryz.prog W = .ok (.int .i64 (cn : Int)) W := by
    have := run_lookup Tryz.ES Tryz.uMapSI h5 (Tryz.zeroI W) x.data.toList false
    rw [e6] at this
    unfold cntV at this
    by_cases h0 : cn = 0
    · rw [if_pos h0] at this; rw [h0]; exact this
    · rw [if_neg h0] at this; exact this
  obtain ⟨es2, hes2⟩ : ∃ es2, es2 = entPut es x.data.toList (.int .i64 ((cn : Int) + 1)) ck := ⟨_, rfl⟩
  obtain ⟨ck2, hck2⟩ : ∃ ck2, ck2 = (if (entGet es x.data.toList).isSome then ck else ck + 1) := ⟨_, rfl⟩
  obtain ⟨W2, hW2⟩ : ∃ W2, W2 = W.putObj (b + 3) (.map (Tryz.ES.arr es2) ck2) := ⟨_, rfl⟩
  have hmu : (Instr.mapUpdate 131 (.map (some (b + 3))) (.string x) (.int .i64 ((cn : Int) + 1))).run Tryz.prog W = .ok () W2 := by
    have := run_mapUpdate Tryz.ES Tryz.uMapSI h5 x.data.toList (.int .i64 ((cn : Int) + 1))
    rw [← hes2, ← hck2, ← hW2] at this; exact this
  have B2 : Blk W2 (b + 3) (.map (Tryz.ES.arr es2) ck2) := by rw [hW2]; exact h5.put_same _
  have e7 : ∀ y : ByteArray, entGet es2 y.data.toList = cntV (cntB (M ++ [x]) y) := fun y => by
    rw [hes2, entGet_put, h6 y, cntB_snoc]
    by_cases hxy : y.data.toList = x.data.toList
    · have hyx : y = x := ByteArray.ext (Array.ext' hxy)
      subst hyx
      rw [if_pos rfl, if_pos rfl, ← hcn]
      unfold cntV; rw [if_neg (by omega)]; simp
    · rw [if_neg hxy, if_neg (fun e => hxy e.symm)]; rfl
  have hlk2 : (Instr.lookup 131 (.map (some (b + 3))) (.string x) false).run Tryz.prog W2 = .ok (.int .i64 ((cn : Int) + 1)) W2 := by
    have := run_lookup Tryz.ES Tryz.uMapSI B2 (Tryz.zeroI W2) x.data.toList false
    rw [hes2, entGet_put, if_pos rfl] at this
    exact this
  have K2 : Keeps (fun z => z = b + 3) W W2 := by rw [hW2]; exact Keeps.onePut _ _ _
  have q9 : W.cell? ⟨b + 4, 0, none⟩ = some (.map (some (b + 3))) := hM.c9.cell (i := 0) (by rfl)
  have E2 : Ext w0 W2 := hM.ext.trans' K2 (fun y hy e => by have e : y = _ := e; have := hM.lo; omega)
  have C9 := hM.c9.keeps K2 (by omega)
  have q92 : W2.cell? ⟨b + 4, 0, none⟩ = some (.map (some (b + 3))) := C9.cell (i := 0) (by rfl)
  have C3 := hM.c3.keeps K2 (by omega)
  have q32 : W2.cell? ⟨b, 0, none⟩ = some (.pointer (some ⟨s, 0, none⟩)) := C3.cell (i := 0) (by rfl)
  have C5 := hM.c5.keeps K2 (by omega)
  have V2 := h1.keeps K2 (by omega)
  have O2 := own_keeps h2 K2 (fun z hz e => by have := h4 z hz; have e : z = _ := e; omega)
  have hV2 : W2.cell? ⟨b + 2, 0, none⟩ = some (.slice ad n cp) := V2.cell (i := 0) (by rfl)
  have hV2f : W2.frozen? ⟨b + 2, 0, none⟩ = false := V2.frozen
  have qs := (h.st.keeps E2 (fun g => g)).cell (i := 1) (v := .map (some bm)) (by rfl)
  have hlks := (h.mp.ext E2).look x false
  simp only [Bool.false_eq_true, if_false] at hlks
  have HMEM := Lib.hid (show memB (firsts M) x = true ↔ cn ≠ 0 from by
    rw [memB_iff, firsts_mem, hcn]
    unfold cntB
    rw [← Nat.pos_iff_ne_zero, List.count_pos_iff, List.mem_map]
    exact ⟨fun hm => ⟨x, hm, rfl⟩, fun ⟨y, hy, e⟩ => by rw [← show y = x from ByteArray.ext (Array.ext' e)]; exact hy⟩)
  have HFS := Lib.hid (frK_step S M x)
  have HTAB := Lib.hid (show ∃ es ck, Blk W2 (b + 3) (.map (Tryz.ES.arr es) ck) ∧ ∀ y : ByteArray, entGet es y.data.toList = cntV (cntB (M ++ [x]) y) from ⟨es2, ck2, B2, e7⟩)
  have HGM := Lib.hid (show ∀ W3 : World, Ext w0 W3 → MapAt W3 bg G from fun _ e => hG.ext e)
  obtain ⟨ok, hok⟩ : ∃ ok, ok = okM S G M x := ⟨_, rfl⟩
  rw [← hok]
  have HOK := Lib.hid hok
  clear hok
  have HK2 := Lib.hid K2
  have HC3 := Lib.hid C3
  have HC5 := Lib.hid C5
  have HC9 := Lib.hid C9
  have HV2 := Lib.hid V2
  have HO2 := Lib.hid O2
  have HE2 := Lib.hid E2
  have H4 := Lib.hid h4
  have H3 := Lib.hid h3
  have HLO := Lib.hid hM.lo
  have HEND := Lib.hid (show frK S (M ++ [x]) = frK S M → Meet w0 s S bg b (M ++ [x]) W2 from fun e => ⟨E2, hM.lo, C3, C5, C9, ⟨es2, ck2, B2, e7⟩, _, n, V2, by rw [e]; exact O2, by rw [List.length_append]; omega, h4⟩)
  clear hM h h1 h2 h4 h5 h6 hcn e6 hes2 hck2 hW2 B2 e7 K2 C3 C5 C9 V2 O2 E2 hG
  by_cases hc0 : cn = 0
  · subst hc0
    have hnm : memB (firsts M) x = false := by
      cases hm : memB (firsts M) x with
      | false => rfl
      | true => exact absurd rfl (HMEM.out.1 hm)
    have HNM := Lib.hid hnm
    have hlk' : (Instr.lookup 131 (.map (some (b + 3))) (.string x) false).run Tryz.prog W = .ok (.int .i64 0) W := hlk
    have hmu' : (Instr.mapUpdate 131 (.map (some (b + 3))) (.string x) (.int .i64 1)).run Tryz.prog W = .ok () W2 := hmu
    have hlk2' : (Instr.lookup 131 (.map (some (b + 3))) (.string x) false).run Tryz.prog W2 = .ok (.int .i64 1) W2 := hlk2
    clear hnm hlk hmu hlk2
    cases hs : atL S x.data.toList with
    | some y =>
      rw [hs] at hlks
      unfold ptrO at hlks
      simp only at hlks
      have HFE := Lib.hid (show frK S (M ++ [x]) = frK S M by rw [HFS.out, HNM.out, hs]; rfl)
      have hok : ok = true := by rw [HOK.out]; unfold okM; rw [hs]; simp
      subst hok
      clear hs HOK
      go_enter Tryz.func88, Tryz.ntmps88
      go_wp2_with fail
      go_ret
      exact ⟨rfl, HEND.out HFE.out⟩
    | none =>
      rw [hs] at hlks
      unfold ptrO at hlks
      simp only at hlks
      have HFE := Lib.hid (show frK S (M ++ [x]) = frK S M ++ [x] by rw [HFS.out, HNM.out, hs]; rfl)
      have hok : ok = (atL G x.data.toList).isSome := by rw [HOK.out]; unfold okM; rw [hs, HNM.out]; simp
      have HOK2 := Lib.hid hok
      clear hs HOK hok
      have hm1 : n + 1 ≤ maxLen := by have := H3.out; unfold maxLen; omega
      have hm2 : (n + 1) * 16 ≤ 140737488355328 := by have := H3.out; omega
      cases hyg : atL G x.data.toList with
      | some yg =>
        have HGY := Lib.hid hyg
        have hok : ok = true := by rw [HOK2.out, hyg]; rfl
        subst hok
        clear hyg HOK2
        go_enter Tryz.func88, Tryz.ntmps88
        obtain ⟨i0, hi, hz0, hz1, hz2⟩ := info_parts Tryz.infoStr
        go_wp2_with (at_builtin; refine wpList_append_any _ rfl (.tmp 24) (.tmp 26) 22 rfl 9 i0 _ 1 16 Tryz.uStrs hi hz0 hz1 hz2 rfl (by decide) (.slice ad n cp) n _ rfl (own_ext HO2.out ((ExtR W2).alloc _)) ⟨W2.heap.size, 0, none⟩ 1 1 [.string x] rfl rfl (news_blk (Blk.new W2 _)) (by simp [Value.oneCell']) hm1 hm2 ?_; intro v' w6 r1 r2 r3; obtain ⟨ad', cp', rfl⟩ := row_slice r1; have K6 : Keeps (fun z => (Value.slice ad n cp).ownBlock = some z) W2 w6 := ((Keeps.refl _ W2).alloc _).trans r2; have nO : ∀ z, z < b + 5 → ¬ (Value.slice ad n cp).ownBlock = some z := (fun z hz e => by have := H4.out z e; omega); have hV6 := HV2.out.keeps K6 (nO _ (by omega)); have q56 : w6.cell? ⟨b + 2, 0, none⟩ = some (.slice ad n cp) := hV6.cell (i := 0) (by rfl); have f56 : w6.frozen? ⟨b + 2, 0, none⟩ = false := hV6.frozen; have K7 : Keeps (fun z => z = b + 2) w6 (w6.setCell ⟨b + 2, 0, none⟩ (.slice ad' (n + 1) cp')) := Keeps.oneSet w6 ⟨b + 2, 0, none⟩ _; have C57 := (HC5.out.keeps K6 (nO _ (by omega))).keeps K7 (by omega); have q57 := C57.cell (i := 0) (v := .map (some bg)) (by rfl); have E7 : Ext w0 (w6.setCell ⟨b + 2, 0, none⟩ (.slice ad' (n + 1) cp')) := (HE2.out.trans' K6 (fun y hy e => by have := H4.out y e; have := HLO.out; omega)).trans' K7 (fun y hy e => by have e : y = _ := e; have := HLO.out; omega); have hlkg := (HGM.out _ E7).look x false; rw [HGY.out] at hlkg; unfold ptrO at hlkg; simp only [Bool.false_eq_true, if_false] at hlkg)
        go_ret
        refine ⟨rfl, E7, HLO.out, (HC3.out.keeps K6 (nO _ (by omega))).keeps K7 (by omega), C57, (HC9.out.keeps K6 (nO _ (by omega))).keeps K7 (by omega), ?_, .slice ad' (n + 1) cp', n + 1, hV6.set_same (i := 0) _, ?_, ?_, ?_⟩
        · obtain ⟨es3, ck3, hT1, hT2⟩ := HTAB.out
          exact ⟨es3, ck3, (hT1.keeps K6 (nO _ (by omega))).keeps K7 (by omega), hT2⟩
        · rw [HFE.out, List.map_append]
          refine own_keeps r1 K7 (fun z hz e => ?_)
          have e : z = b + 2 := e
          rcases r3 with r3 | r3
          · have := H4.out z (r3 ▸ hz); omega
          · have h9 := r3 z hz; rw [World.size_alloc] at h9; have := HV2.out.lt; omega
        · have := H3.out; rw [List.length_append]; exact Nat.succ_le_succ this
        · intro z hz
          rcases r3 with r3 | r3
          · exact H4.out z (r3 ▸ hz)
          · have h9 := r3 z hz; rw [World.size_alloc] at h9; have := HC9.out.lt; omega
      | none =>
        have HGY := Lib.hid hyg
        have hok : ok = false := by rw [HOK2.out, hyg]; rfl
        subst hok
        clear hyg HOK2
        go_enter Tryz.func88, Tryz.ntmps88
        obtain ⟨i0, hi, hz0, hz1, hz2⟩ := info_parts Tryz.infoStr
        go_wp2_with (at_builtin; refine wpList_append_any _ rfl (.tmp 24) (.tmp 26) 22 rfl 9 i0 _ 1 16 Tryz.uStrs hi hz0 hz1 hz2 rfl (by decide) (.slice ad n cp) n _ rfl (own_ext HO2.out ((ExtR W2).alloc _)) ⟨W2.heap.size, 0, none⟩ 1 1 [.string x] rfl rfl (news_blk (Blk.new W2 _)) (by simp [Value.oneCell']) hm1 hm2 ?_; intro v' w6 r1 r2 r3; obtain ⟨ad', cp', rfl⟩ := row_slice r1; have K6 : Keeps (fun z => (Value.slice ad n cp).ownBlock = some z) W2 w6 := ((Keeps.refl _ W2).alloc _).trans r2; have nO : ∀ z, z < b + 5 → ¬ (Value.slice ad n cp).ownBlock = some z := (fun z hz e => by have := H4.out z e; omega); have hV6 := HV2.out.keeps K6 (nO _ (by omega)); have q56 : w6.cell? ⟨b + 2, 0, none⟩ = some (.slice ad n cp) := hV6.cell (i := 0) (by rfl); have f56 : w6.frozen? ⟨b + 2, 0, none⟩ = false := hV6.frozen; have K7 : Keeps (fun z => z = b + 2) w6 (w6.setCell ⟨b + 2, 0, none⟩ (.slice ad' (n + 1) cp')) := Keeps.oneSet w6 ⟨b + 2, 0, none⟩ _; have C57 := (HC5.out.keeps K6 (nO _ (by omega))).keeps K7 (by omega); have q57 := C57.cell (i := 0) (v := .map (some bg)) (by rfl); have E7 : Ext w0 (w6.setCell ⟨b + 2, 0, none⟩ (.slice ad' (n + 1) cp')) := (HE2.out.trans' K6 (fun y hy e => by have := H4.out y e; have := HLO.out; omega)).trans' K7 (fun y hy e => by have e : y = _ := e; have := HLO.out; omega); have hlkg := (HGM.out _ E7).look x false; rw [HGY.out] at hlkg; unfold ptrO at hlkg; simp only [Bool.false_eq_true, if_false] at hlkg)
        go_ret
        refine ⟨rfl, E7, HLO.out, (HC3.out.keeps K6 (nO _ (by omega))).keeps K7 (by omega), C57, (HC9.out.keeps K6 (nO _ (by omega))).keeps K7 (by omega), ?_, .slice ad' (n + 1) cp', n + 1, hV6.set_same (i := 0) _, ?_, ?_, ?_⟩
        · obtain ⟨es3, ck3, hT1, hT2⟩ := HTAB.out
          exact ⟨es3, ck3, (hT1.keeps K6 (nO _ (by omega))).keeps K7 (by omega), hT2⟩
        · rw [HFE.out, List.map_append]
          refine own_keeps r1 K7 (fun z hz e => ?_)
          have e : z = b + 2 := e
          rcases r3 with r3 | r3
          · have := H4.out z (r3 ▸ hz); omega
          · have h9 := r3 z hz; rw [World.size_alloc] at h9; have := HV2.out.lt; omega
        · have := H3.out; rw [List.length_append]; exact Nat.succ_le_succ this
        · intro z hz
          rcases r3 with r3 | r3
          · exact H4.out z (r3 ▸ hz)
          · have h9 := r3 z hz; rw [World.size_alloc] at h9; have := HC9.out.lt; omega
  · have hc1 : ¬ ((cn : Int) + 1 ≤ 1) := by omega
    have HFE := Lib.hid (show frK S (M ++ [x]) = frK S M by rw [HFS.out, HMEM.out.2 hc0]; rfl)
    have hok : ok = true := by rw [HOK.out]; unfold okM; rw [HMEM.out.2 hc0]; simp
    subst hok
    clear HOK
    go_enter Tryz.func88, Tryz.ntmps88
    go_wp2_with fail
    go_ret
    exact ⟨rfl, HEND.out HFE.out⟩
end
end Go.Proofs.YtjogjmffkmfmbaaGreatDoor
/- store: reached, of any refs. -/
namespace Go.Proofs.YtjogjmffkmfmbaaGreatDoor
section
open Go Go.RowKit
set_option linter.unusedSimpArgs false
set_option linter.unusedVariables false
attribute [local go_sem] Oper.semAt_some
/-- A map of few nodes, each with few refs. -/
structure Fair (G : List Nd5) : Prop where
  few : G.length ≤ 1000
  refs : ∀ y ∈ G, y.2.2.refs.length ≤ 16
def has2 (S G : List Nd5) (x : ByteArray) : Prop := (atL S x.data.toList).isSome = true ∨ (atL G x.data.toList).isSome = true
structure Path2 (S G : List Nd5) (root : ByteArray) (M : List ByteArray) (i : Nat) : Prop where
  is : M = root :: ((frK S M).take i).flatMap (refsO G)
  le : i ≤ (frK S M).length
  inG : ∀ x ∈ M, has2 S G x
theorem flatG_len2 {G : List Nd5} (h : Fair G) : ∀ l : List ByteArray, (l.flatMap (refsO G)).length ≤ 16 * l.length
  | [] => by simp
  | x :: r => by
    have ih := flatG_len2 h r
    have : (refsO G x).length ≤ 16 := by
      unfold refsO
      split
      · rename_i y hy; exact h.refs y (atL_mem hy).1
      · simp
    rw [List.flatMap_cons, List.length_append, List.length_cons]; omega
theorem Path2.len {S G : List Nd5} {root : ByteArray} {M : List ByteArray} {i : Nat} (h : Path2 S G root M i) (hs : Fair G) : M.length ≤ 1 + 16 * i := by
  have := flatG_len2 hs ((frK S M).take i)
  rw [List.length_take] at this
  have h2 := congrArg List.length h.is
  rw [List.length_cons] at h2
  omega
theorem Path2.at' {S G : List Nd5} {root : ByteArray} {M : List ByteArray} {i : Nat} (h : Path2 S G root M i) {x : ByteArray} (hx : x ∈ frK S M) : (atL G x.data.toList).isSome = true := by
  have hm := frK_mem.1 hx
  rcases h.inG x hm.1 with h | h
  · rw [hm.2] at h; cases h
  · exact h
theorem frK_len2 {S G : List Nd5} {M : List ByteArray} (h : ∀ x ∈ frK S M, (atL G x.data.toList).isSome = true) : (frK S M).length ≤ G.length := by
  have h1 : ((frK S M).map fun x => x.data.toList).Nodup := by
    have := frK_nodup S M
    generalize frK S M = l at this
    induction l with
    | nil => simp
    | cons z r ih =>
      rw [List.nodup_cons] at this
      rw [List.map_cons, List.nodup_cons]
      exact ⟨fun hm => by obtain ⟨y, hy, e⟩ := List.mem_map.1 hm; exact this.1 (ba_data e ▸ hy), ih this.2⟩
  have := List.Nodup.length_le_of_subset h1 (l₂ := G.map (·.1)) (fun k hk => by
    obtain ⟨x, hx, e⟩ := List.mem_map.1 hk
    obtain ⟨y, hy⟩ := Option.isSome_iff_exists.1 (h x hx)
    exact List.mem_map.2 ⟨y, (atL_mem hy).1, by rw [(atL_mem hy).2, e]⟩)
  simpa using this
theorem Path2.step {S G : List Nd5} {root : ByteArray} {M : List ByteArray} {i : Nat} (h : Path2 S G root M i) {x : ByteArray} (hx : (frK S M)[i]? = some x) (hr : ∀ r ∈ refsO G x, has2 S G r) : Path2 S G root (M ++ refsO G x) (i + 1) := by
  obtain ⟨X, hX⟩ := frK_grow S M (refsO G x)
  have hlt : i < (frK S M).length := (List.getElem?_eq_some_iff.1 hx).1
  refine ⟨?_, ?_, ?_⟩
  · have e : (frK S (M ++ refsO G x)).take (i + 1) = (frK S M).take i ++ [x] := by
      rw [hX, List.take_append_of_le_length (by omega), List.take_add_one, hx]; rfl
    rw [e, List.flatMap_append]
    have := h.is
    generalize frK S M = l at this
    rw [this]
    simp
  · rw [hX, List.length_append]; omega
  · intro y hy
    rcases List.mem_append.1 hy with hy | hy
    · exact h.inG y hy
    · exact hr y hy
theorem ok_has {S G : List Nd5} {M : List ByteArray} {x : ByteArray} (h : okM S G M x = true) (hM : ∀ y ∈ M, has2 S G y) : has2 S G x := by
  unfold okM at h
  simp only [Bool.or_eq_true] at h
  rcases h with (h | h) | h
  · exact hM x ((firsts_mem _ _).1 ((memB_iff _ _).1 h))
  · exact .inl h
  · exact .inr h
def RhRelA (w0 : World) (s : Nat) (S G : List Nd5) (bg b : Nat) (root : ByteArray) (wv iv : Value) (W : World) : Prop := wv = .bool true ∧ ∃ (i : Nat) (M : List ByteArray), iv = .int .i64 i ∧ Path2 S G root M i ∧ Meet w0 s S bg b M W
def RhRelA2 (w0 : World) (s : Nat) (S G : List Nd5) (bg b : Nat) (M R : List ByteArray) (wv jv : Value) (W : World) : Prop := wv = .bool true ∧ ∃ j : Nat, jv = .int .i64 j ∧ j ≤ R.length ∧ Meet w0 s S bg b (M ++ R.take j) W ∧ ∀ r ∈ R.take j, has2 S G r
def RhP (w0 : World) (S G : List Nd5) (root : ByteArray) (e : Ending) (w' : World) : Prop := (e = .returned (.tuple #[.slice none 0 0, .int .i64 2]) ∧ Ext w0 w') ∨ ∃ v n M, e = .returned (.tuple #[v, .int .i64 0]) ∧ Path2 S G root M (frK S M).length ∧ SRow w0 w' v n (frK S M)
set_option maxRecDepth 100000 in
set_option maxHeartbeats 8000000 in
theorem reached_any (w0 : World) (s bm : Nat) (room : Int) (S G : List Nd5) (bg : Nat) (h : StoreAt w0 s bm room S) (hG : MapAt w0 bg G) (hs : Fair G) (root : ByteArray) (hr : (atL G root.data.toList).isSome = true) :
    Calls Tryz.prog 51 #[.pointer (some ⟨s, 0, none⟩), .string root, .map (some bg)] w0 (RhP w0 S G root) := by
  have HS := Lib.hid h
  have HG := Lib.hid hG
  have HSH := Lib.hid hs
  have HR := Lib.hid hr
  have hmm := Tryz.makeMapSI
  clear h hG hs hr
  go_enter Tryz.func51, Tryz.ntmps51
  go_wp2_with fail
  go_step3
  go_wp2_with fail
  refine (meet_any w0 s bm room S G bg w0.heap.size HS.out HG.out _ [] (meet_init w0 s S bg) root (by simp)).mono ?_
  rintro e w5 ⟨rfl, hM⟩
  rw [show okM S G [] root = true by unfold okM; rw [HR.out]; simp]
  have HM := Lib.hid hM
  clear hM hmm
  obtain ⟨b, hb⟩ : ∃ b, b = w0.heap.size := ⟨_, rfl⟩
  rw [show w0.heap.size + 1 + 1 + 1 + 1 = w0.heap.size + 4 from rfl, show w0.heap.size + 1 + 1 + 1 = w0.heap.size + 3 from rfl, show w0.heap.size + 1 + 1 = w0.heap.size + 2 from rfl]
  rw [← hb] at HM ⊢
  clear hb
  go_wp2_with fail
  go_step3
  go_wp2_with fail
  go_loopw [11, 12] (fun wv iv wr => RhRelA w0 s S G bg b root wv iv wr) (fun _ iv _ => 1001 - (intOf iv).toNat)
  case atStart =>
    refine ⟨rfl, 0, [root], rfl, ⟨by simp, Nat.zero_le _, fun x hx => by simp at hx; subst hx; exact .inr HR.out⟩, HM.out⟩
  case round =>
    obtain ⟨rfl, i, M, rfl, hP, hM⟩ := hrel
    obtain ⟨v, n, h1, h2, h3, h4⟩ := hM.var
    obtain ⟨ad, cp, rfl⟩ := row_slice h2
    have hn : (frK S M).length = n := by have := h2.1; simpa using this
    have hfl := frK_len2 (S := S) (M := M) (fun x hx => hP.at' hx)
    have hfew := HSH.out.few
    have q8 := h1.cell (i := 0) (v := .slice ad n cp) (by rfl)
    have hile := hP.le
    by_cases hlt : i < n
    · have b1 : (i : Int) < (n : Int) := by omega
      obtain ⟨x, hx⟩ : ∃ x, (frK S M)[i]? = some x := ⟨_, List.getElem?_eq_getElem (by omega)⟩
      obtain ⟨ax, cx, hh, hcell⟩ := (own_rd h2).slice
      obtain ⟨ba, oa, hao, hqa⟩ := hcell i x hx
      subst hao
      cases hh
      obtain ⟨y, hy⟩ := Option.isSome_iff_exists.1 (hP.at' (List.mem_of_getElem? hx))
      have hI := HG.out.items y (atL_mem hy).1
      have hro := refsO_some hy
      have h16 := HSH.out.refs y (atL_mem hy).1
      obtain ⟨rv, hIb, hIr⟩ := hI.cells
      obtain ⟨ar, cr, rfl⟩ := row_slice hIr
      obtain ⟨R, hR⟩ : ∃ R, R = y.2.2.refs := ⟨_, rfl⟩
      have Q5 := Lib.hid (hM.c5.cell (i := 0) (v := .map (some bg)) (by rfl))
      have Q8 := Lib.hid q8
      have QA := Lib.hid hqa
      have QR := Lib.hid ((hIb.keeps hM.ext (fun g => g)).cell (i := 1) (v := .slice ar y.2.2.refs.length cr) (by rfl))
      have HMG := Lib.hid (HG.out.ext hM.ext)
      have HY := Lib.hid hy
      have HPS := Lib.hid (fun hr => hP.step hx hr)
      have HIN := Lib.hid hP.inG
      have HPL := Lib.hid (hP.len HSH.out)
      have HRR := Lib.hid (own_rd hIr)
      have HM2 := Lib.hid hM
      rw [hro, ← hR] at HPS
      rw [← hR] at QR HRR h16
      have hi1000 : i ≤ 1000 := by omega
      obtain ⟨yb, hyb⟩ : ∃ yb, yb = y.2.1 := ⟨_, rfl⟩
      rw [← hyb] at QR
      have HYB := Lib.hid hyb
      clear hro hR hyb hIr hIb hI hy hx hcell hqa h1 h2 hP hM hn hfl hile
      go_wp2_with fail
      refine wp_region_mixK [0,1,2,3,4,5,6,7,8,9,10] Ext ExtR ExtT (by kernel_rfl) (by kernel_rfl) (by kernel_rfl) ?_
      refine mixk_load ⟨b + 1, 0, none⟩ _ rfl (by kernel_rfl) rfl rfl (fun w1 h1 => run_load_plain Tryz.underlying92 rfl (cell_ext Q5.out ((drewE _).trans h1))) ?_
      simp only [Act.put, List.setIfInBounds_toArray, List.set_cons_zero, List.set_cons_succ]
      refine mixk_load ⟨b + 2, 0, none⟩ _ rfl (by kernel_rfl) rfl rfl (fun w1 h1 => run_load_plain Tryz.underlying22 rfl (cell_ext Q8.out ((drewE _).trans h1))) ?_
      simp only [Act.put, List.setIfInBounds_toArray, List.set_cons_zero, List.set_cons_succ]
      iterate 2 (refine mixk_pure _ rfl (by kernel_rfl) rfl rfl (fun K hK => ?_); go_big_quiet_op; refine hK _ ?_; clear hK K)
      refine mixk_load ⟨ba, oa + i, none⟩ _ rfl (by kernel_rfl) rfl rfl (fun w1 h1 => run_load_plain Tryz.underlying9 rfl (cell_ext QA.out ((drewE _).trans h1))) ?_
      simp only [Act.put, List.setIfInBounds_toArray, List.set_cons_zero, List.set_cons_succ]
      refine mixk_val _ (.pointer (some ⟨yb, 0, none⟩)) rfl (by kernel_rfl) rfl (fun w1 h1 => by
        have hx := (HMG.out.ext ((drewE _).trans h1)).look x false
        rw [HY.out] at hx
        unfold ptrO at hx
        simp only [Bool.false_eq_true, if_false] at hx
        rw [← HYB.out] at hx
        simp [execOp, Act.eval, hx, Sem.run_bind, Result.andThen, Sem.run_pure]) ?_
      simp only [Act.put, List.setIfInBounds_toArray, List.set_cons_zero, List.set_cons_succ]
      refine mixk_val _ (.pointer (some ⟨yb, 0, none⟩)) rfl (by kernel_rfl) rfl (fun w1 _ => by kernel_rfl) ?_
      simp only [Act.put, List.setIfInBounds_toArray, List.set_cons_zero, List.set_cons_succ]
      iterate 1 (refine mixk_pure _ rfl (by kernel_rfl) rfl rfl (fun K hK => ?_); go_big_quiet_op; refine hK _ ?_; clear hK K)
      refine mixk_load ⟨yb, 1, none⟩ _ rfl (by kernel_rfl) rfl rfl (fun w1 h1 => run_load_plain Tryz.underlying22 rfl (cell_ext QR.out ((drewE _).trans h1))) ?_
      simp only [Act.put, List.setIfInBounds_toArray, List.set_cons_zero, List.set_cons_succ]
      iterate 2 (refine mixk_pure _ rfl (by kernel_rfl) rfl rfl (fun K hK => ?_); go_big_quiet_op; refine hK _ ?_; clear hK K)
      refine mixk_end (by kernel_rfl) (fun w3 he => ?_)
      have HM3 := Lib.hid (HM2.out.keeps ((drewE _).trans he))
      clear he HM2 Q5 Q8 QA QR HMG HY q8
      go_wp2_with fail
      go_loopw [11, 36] (fun wv jv wr2 => RhRelA2 w0 s S G bg b M R wv jv wr2) (fun _ jv _ => R.length - (intOf jv).toNat)
      case atStart => exact ⟨rfl, 0, rfl, Nat.zero_le _, by rw [List.take_zero, List.append_nil]; exact HM3.out, fun r hr => by cases hr⟩
      case round =>
        obtain ⟨rfl, j, rfl, hj, hM', hin⟩ := hrel
        have HINR := Lib.hid hin
        clear hin
        by_cases hlt2 : j < R.length
        · have b2 : (j : Int) < (R.length : Int) := by omega
          obtain ⟨z, hz⟩ : ∃ z, R[j]? = some z := ⟨_, List.getElem?_eq_getElem hlt2⟩
          obtain ⟨ax2, cx2, hh2, hcell2⟩ := HRR.out.slice
          obtain ⟨ba2, oa2, hao2, hqa2⟩ := hcell2 j z hz
          subst hao2
          cases hh2
          have q2 := cell_ext hqa2 hM'.ext
          have HZR := Lib.hid hz
          have HT := Lib.hid (show M ++ R.take (j + 1) = M ++ R.take j ++ [z] by rw [List.take_add_one, hz, ← List.append_assoc]; rfl)
          have HL := Lib.hid (show (M ++ R.take j).length ≤ 1000000 by have := HPL.out; rw [List.length_append, List.length_take]; omega)
          have HMJ := Lib.hid hM'
          clear hcell2 hqa2 hM' hz
          go_wp2_with fail
          refine (meet_any w0 s bm room S G bg b HS.out HG.out _ _ HMJ.out z HL.out).mono ?_
          rintro e w9 ⟨rfl, hM9⟩
          rw [← HT.out] at hM9
          have HM9 := Lib.hid hM9
          obtain ⟨ok, hok⟩ : ∃ ok, ok = okM S G (M ++ R.take j) z := ⟨_, rfl⟩
          rw [← hok]
          have HOK := Lib.hid hok
          clear hM9 HMJ q2 hok
          cases ok with
          | false =>
            go_wp2_with fail
            go_ret2
            exact .inl ⟨rfl, HM9.out.ext⟩
          | true =>
          go_wp2_with fail
          go_roundw
          case rel =>
            refine ⟨rfl, j + 1, by go_num, by omega, HM9.out, take_all HINR.out HZR.out (ok_has HOK.out.symm fun y hy => ?_)⟩
            rcases List.mem_append.1 hy with hy | hy
            · exact HIN.out y hy
            · exact HINR.out y hy
          case measure => simp [intOf]; omega
        · have hje : j = R.length := by omega
          subst hje
          rw [List.take_length] at hM'
          have HM9 := Lib.hid hM'
          clear hM'
          go_wp2_with fail
          go_roundw
          case rel => exact ⟨rfl, i + 1, M ++ R, by go_num, HPS.out (by have h := HINR.out; rwa [List.take_length] at h), HM9.out⟩
          case measure => simp [intOf]; omega
    · have hie : i = (frK S M).length := by omega
      have HP := Lib.hid (show Path2 S G root M (frK S M).length by rw [← hie]; exact hP)
      have HRW := Lib.hid (show SRow w0 wr (.slice ad n cp) n (frK S M) from ⟨⟨_, _, rfl⟩, h2, hM.ext, fun z hz => by have := h4 z hz; have := hM.lo; omega⟩)
      have b1 : ¬ (i : Int) < (n : Int) := by omega
      clear hie hP hM h1 h2 h4 hn hfl hile
      go_wp2_with fail
      go_ret2
      exact .inr ⟨.slice ad n cp, n, M, rfl, HP.out, HRW.out⟩
end
end Go.Proofs.YtjogjmffkmfmbaaGreatDoor
/- store: Add, of any texts. -/
namespace Go.Proofs.YtjogjmffkmfmbaaGreatDoor
section
open Go Go.RowKit
set_option linter.unusedSimpArgs false
set_option linter.unusedVariables false
attribute [local go_sem] Oper.semAt_some
theorem given_fair {L : List ByteArray} {G : List Nd5} (h : G.map kvI = readG L) (hL : ∀ t ∈ L, ∃ n, IsNode t n) (hl : L.length ≤ 1000) : Fair G := by
  refine ⟨?_, fun y hy => ?_⟩
  · have := (readG_all L).2.2
    rw [← h, List.length_map] at this
    exact Nat.le_trans this hl
  · obtain ⟨t, ht, _, e⟩ := given_is h hy
    rw [e]
    obtain ⟨n, hn⟩ := hL t ht
    exact hashesT_len (nodeOf_is hn)
theorem s1_has2 {S G : List Nd5} {root : ByteArray} {M : List ByteArray} {i : Nat} (h : Path2 S G root M i) {r : ByteArray} (hr : r ∈ M) : (atL (S ++ picks G (frK S M)) r.data.toList).isSome = true := by
  rw [atL_or]
  cases hs : atL S r.data.toList with
  | some y => rfl
  | none =>
    obtain ⟨y, hy⟩ := Option.isSome_iff_exists.1 (h.at' (frK_mem.2 ⟨hr, hs⟩))
    have hm : y ∈ picks G (frK S M) := List.mem_filterMap.2 ⟨r, frK_mem.2 ⟨hr, hs⟩, hy⟩
    cases hp : atL (picks G (frK S M)) r.data.toList with
    | some z => rfl
    | none => exact absurd (atL_mem hy).2.symm (atL_none.1 hp y hm)
def AddNo (w : World) (e : Ending) (w' : World) : Prop := ∃ k : Int, k ≠ 0 ∧ e = .returned (.tuple #[.string ⟨#[]⟩, .int .i64 k]) ∧ Ext w w'
structure AddY (w : World) (s bm : Nat) (room : Int) (S : List Nd5) (L : List ByteArray) (top : ByteArray) (G : List Nd5) (M : List ByteArray) (e : Ending) (w' : World) : Prop where
  given : G.map kvI = readG L
  nodes : ∀ t ∈ L, ∃ n, IsNode t n
  news : ∀ y ∈ G, w.heap.size ≤ y.2.1
  path : Path2 S G (shaB top) M (frK S M).length
  fits : ¬ room - S.length < (frK S M).length
  res : e = .returned (.tuple #[.string (shaB top), .int .i64 0])
  st : StoreAt w' s bm room (bumpH (shaB top).data.toList (bumps ((frK S M).flatMap (refsO G)) (S ++ picks G (frK S M))))
  kp : Keeps (fun z => z = bm ∨ z ∈ S.map (·.2.1)) w w'
  rk : RK w w'
  rows : RowsN w w' G
def AddAny (w : World) (s bm : Nat) (room : Int) (S : List Nd5) (L : List ByteArray) (e : Ending) (w' : World) : Prop := AddNo w e w' ∨ ∃ top G M, L[0]? = some top ∧ AddY w s bm room S L top G M e w'
set_option maxRecDepth 100000 in
set_option maxHeartbeats 8000000 in
theorem add_some (w : World) (hc : Cubes w) (hGE : ErrT w) (s bm : Nat) (room : Int) (S : List Nd5) (h : StoreAt w s bm room S) (v : Value) (L : List ByteArray) (hv : RdS w v L) (hL : AnyL L) (hll : L.length ≤ 1000) (top : ByteArray) (htop : L[0]? = some top) (hr0 : 0 ≤ room) (hr1 : room ≤ 9223372036854775807) (hS : S.length ≤ 100000) (hSu : ∀ x ∈ S, 0 ≤ x.2.2.used ∧ x.2.2.used ≤ 1000000000) (hSh : ∀ x ∈ S, 0 ≤ x.2.2.held ∧ x.2.2.held ≤ 1000000000) :
    Calls Tryz.prog 13 #[.pointer (some ⟨s, 0, none⟩), v] w (AddAny w s bm room S L) := by
  have h0 : L ≠ [] := fun e => by subst e; cases htop
  have hpos : 0 < L.length := List.length_pos_iff.2 h0
  obtain ⟨a, c, rfl, _⟩ := hv.slice
  have HR := Lib.hid (sread_any w hc hGE _ L hv hll h0 hL)
  have HC := Lib.hid hc
  have HV := Lib.hid hv
  have HL := Lib.hid hL
  have HS := Lib.hid h
  have HTOP := Lib.hid htop
  have HSU := Lib.hid hSu
  have HSHD := Lib.hid hSh
  clear hc h hv hL htop h0 hSu hSh
  go_enter Tryz.func13, Tryz.ntmps13
  go_wp2_with fail
  refine HR.out.mono ?_
  rintro e w1 (⟨rfl, hE⟩ | ⟨hnode, bg, G, rfl, hG, hrn⟩)
  · have HE := Lib.hid hE
    clear hE HR
    go_wp2_with fail
    go_ret2
    exact .inl ⟨2, by decide, rfl, HE.out⟩
  have HND0 := Lib.hid hnode
  have HRN := Lib.hid hrn
  have HGI := Lib.hid (show ∀ x ∈ G, x.2.1 < w1.heap.size from fun x hx => (hG.at'.items x hx).lt)
  have HG1 := Lib.hid hG.ext
  clear hnode hrn
  obtain ⟨ax, cx, hh, hcell⟩ := HV.out.slice
  obtain ⟨ba, oa, hao, hqa⟩ := hcell 0 top HTOP.out
  subst hao
  cases hh
  have q1 := cell_ext hqa hG.ext
  have HG := Lib.hid hG
  rw [Nat.add_zero] at q1
  clear hcell hqa hG HR
  go_wp2_with fail
  refine (of_t _ _ [top] (by simp) (rds_lit w1 [top] 9) (HC.out.ext (HG.out.ext.alloc _))).mono ?_
  rintro e w2 ⟨rfl, hE⟩
  rw [catB_one]
  have hx2 := ((ExtR w1).alloc (.cells #[.string top] 9)).trans hE
  have HG2 := Lib.hid (HG.out.keeps hx2)
  have HX2 := Lib.hid hx2
  obtain ⟨rt, hrt⟩ : ∃ rt, rt = shaB top := ⟨_, rfl⟩
  have HRT := Lib.hid hrt
  have HTG := Lib.hid (show (atL G rt.data.toList).isSome = true by rw [hrt]; exact given_has HG.out.is (List.mem_of_getElem? HTOP.out))
  rw [← hrt]
  clear hE hx2 hrt q1
  go_wp2_with fail
  have HSH := Lib.hid (given_fair HG2.out.is HND0.out hll)
  have HS2 := Lib.hid (HS.out.ext HG2.out.ext)
  refine (reached_any w2 s bm room S G bg HS2.out HG2.out.at' HSH.out rt HTG.out).mono ?_
  rintro e w3 (⟨rfl, hE⟩ | ⟨v3, n, M, rfl, hP, hF⟩)
  · have HE := Lib.hid (HG2.out.ext.trans hE)
    clear hE
    go_wp2_with fail
    go_ret2
    exact .inl ⟨2, by decide, rfl, HE.out⟩
  have hlen := frK_len2 (S := S) (M := M) (fun x hx => hP.at' hx)
  have hfew := HSH.out.few
  have hn : (frK S M).length = n := by have := hF.len; simpa using this
  obtain ⟨ad, cp, rfl⟩ := hF.sl
  have HP := Lib.hid hP
  have HF := Lib.hid hF
  obtain ⟨F, hFe⟩ : ∃ F, F = frK S M := ⟨_, rfl⟩
  rw [← hFe] at HF hn hlen
  have HFE := Lib.hid hFe
  have HGX := Lib.hid (HG2.out.keeps hF.ext)
  have HSX := Lib.hid (HS2.out.ext hF.ext)
  clear hP hF hFe
  go_wp2_with fail
  refine (sroom_c w3 s bm room S HSX.out hr0 hr1 (by omega)).mono ?_
  rintro e w4 ⟨rfl, hE⟩
  obtain ⟨m, hm⟩ : ∃ m, m = room - (S.length : Int) := ⟨_, rfl⟩
  rw [← hm]
  have HM := Lib.hid hm
  have HE4 := Lib.hid hE
  clear hE hm
  by_cases hfull : m < (n : Int)
  · go_wp2_with fail
    go_ret2
    exact .inl ⟨3, by decide, rfl, (HG2.out.ext.trans HF.out.ext).trans HE4.out⟩
  · have HRK4 := Lib.hid (show RK w1 w4 from (((RK.refl w1).ext HX2.out).ext HF.out.ext).ext HE4.out)
    have hA0 : Ad1 w4 s bm bg room S G F (.slice ad n cp) 0 w4 := ⟨Keeps.refl _ _, by rw [List.take_zero]; show StoreAt w4 s bm room (S ++ []); rw [List.append_nil]; exact HSX.out.ext HE4.out, HGX.out.at'.ext HE4.out, by rw [hn]; exact own_ext HF.out.own HE4.out⟩
    have HA0 := Lib.hid hA0
    have hbm := HS.out.mp.mp
    obtain ⟨_, _, hbm, _⟩ := hbm
    have hbmlt := hbm.lt
    have HNE := Lib.hid (show ∀ z, (Value.slice ad n cp).ownBlock = some z → z ≠ bm from fun z hz e => by have := HF.out.new z hz; have := HG2.out.ext.size; omega)
    have HBG := Lib.hid (show bg ≠ bm from fun e => by have := HG2.out.new; omega)
    have HSG := Lib.hid (show ∀ x ∈ S, ∀ y ∈ G, x.2.1 ≠ y.2.1 from fun x hx y hy e => by have := (HS.out.mp.items x hx).lt; have := HG2.out.news y hy; omega)
    have HND := Lib.hid (show F.Nodup by rw [HFE.out]; exact frK_nodup S M)
    have HFS := Lib.hid (show ∀ x ∈ F, atL S x.data.toList = none from fun x hx => by rw [HFE.out] at hx; exact (frK_mem.1 hx).2)
    have HFG := Lib.hid (show ∀ x ∈ F, (atL G x.data.toList).isSome = true from fun x hx => by rw [HFE.out] at hx; exact HP.out.at' hx)
    have HST := Lib.hid (HS.out.st)
    subst hn
    clear hA0 hbm
    go_wp2_with fail
    rw [show decide (m < (F.length : Int)) = false from decide_eq_false (Int.not_lt.2 hfull)]
    go_loopw [46] (fun iv wr => AdR1 w4 s bm bg room S G F (.slice ad F.length cp) iv wr ∧ RK w1 wr) (fun iv _ => F.length - (intOf iv).toNat)
    case atStart => exact ⟨⟨0, Nat.zero_le _, rfl, HA0.out⟩, HRK4.out⟩
    case round =>
      obtain ⟨⟨i, hi, rfl, hA⟩, hrk⟩ := hrel
      have HRK := Lib.hid hrk
      clear hrk
      have HA := Lib.hid hA
      by_cases hlt : i < F.length
      · have b1 : (i : Int) < (F.length : Int) := by omega
        obtain ⟨x, hx⟩ : ∃ x, F[i]? = some x := ⟨_, List.getElem?_eq_getElem hlt⟩
        obtain ⟨ax, cx, hh, hcell⟩ := (own_rd hA.row).slice
        obtain ⟨ba2, oa2, hao, hqa⟩ := hcell i x hx
        subst hao
        cases hh
        obtain ⟨y, hy⟩ := Option.isSome_iff_exists.1 (HFG.out x (List.mem_of_getElem? hx))
        have Q1 := Lib.hid (hA.st.st.cell (i := 1) (v := .map (some bm)) (by rfl))
        have HGV := Lib.hid hA.gv
        have HX := Lib.hid hx
        have HY := Lib.hid hy
        obtain ⟨yb, hyb⟩ : ∃ yb, yb = y.2.1 := ⟨_, rfl⟩
        have HYB := Lib.hid hyb
        clear hcell hx hy hA hyb
        go_wp2_with fail
        refine wp_region_mix [0,1,2,3,4,5,6,7,8] [8] Ext ExtR ExtT (by kernel_rfl) (by kernel_rfl) (by kernel_rfl) ?_
        iterate 1 (refine mix_pure _ rfl (by kernel_rfl) rfl rfl (fun K hK => ?_); go_big_quiet_op; refine hK _ ?_; clear hK K)
        refine mix_any _ (.pointer (some ⟨s, 0, none⟩)) rfl (by kernel_rfl) rfl (fun w1 => by kernel_rfl) ?_
        simp only [Act.put, List.setIfInBounds_toArray, List.set_cons_zero, List.set_cons_succ]
        iterate 1 (refine mix_pure _ rfl (by kernel_rfl) rfl rfl (fun K hK => ?_); go_big_quiet_op; refine hK _ ?_; clear hK K)
        refine mix_load ⟨s, 1, none⟩ _ rfl (by kernel_rfl) rfl rfl (fun w1 h1 => run_load_plain Tryz.underlying92 rfl (cell_ext Q1.out ((drewE _).trans h1))) ?_
        simp only [Act.put, List.setIfInBounds_toArray, List.set_cons_zero, List.set_cons_succ]
        iterate 3 (refine mix_pure _ rfl (by kernel_rfl) rfl rfl (fun K hK => ?_); go_big_quiet_op; refine hK _ ?_; clear hK K)
        refine mix_val _ (.pointer (some ⟨yb, 0, none⟩)) rfl (by kernel_rfl) rfl (fun w1 h1 => by
          have hx := (HGV.out.ext ((drewE _).trans h1)).look x false
          rw [HY.out] at hx
          unfold ptrO at hx
          simp only [Bool.false_eq_true, if_false] at hx
          rw [← HYB.out] at hx
          simp [execOp, Act.eval, hx, Sem.run_bind, Result.andThen, Sem.run_pure]) ?_
        simp only [Act.put, List.setIfInBounds_toArray, List.set_cons_zero, List.set_cons_succ]
        refine mix_hard _ rfl (by kernel_rfl) rfl (fun w5 he K hK => ?_)
        have hA5 := HA.out.ext ((drewE _).trans he)
        obtain ⟨ob, hmu, hA6⟩ := hA5.put HSG.out HBG.out HNE.out HND.out HFS.out HX.out HY.out
        rw [← HYB.out] at hmu
        have HA6 := Lib.hid hA6
        obtain ⟨oes, ock, hobm, _⟩ := hA6.st.mp.mp
        have HRK6 := Lib.hid ((HRK.out.ext ((drewE _).trans he)).put (Keeps.onePut _ bm ob) hobm)
        clear hobm
        clear hA5 hA6 he HA Q1 HGV hqa
        go_simp
        refine hK _ _ ?_
        clear hK K
        refine mix_end (by kernel_rfl) (fun w7 he => ?_)
        have HA7 := Lib.hid (HA6.out.ext he)
        have HRK7 := Lib.hid (HRK6.out.ext he)
        clear he HA6 hmu
        go_wp2_with fail
        go_roundw
        case rel => exact ⟨⟨i + 1, by omega, by go_num, HA7.out⟩, HRK7.out⟩
        case measure => simp [intOf]; omega
      · have hie : i = F.length := by omega
        subst hie
        obtain ⟨S1, hS1⟩ : ∃ S1, S1 = S ++ picks G F := ⟨_, rfl⟩
        have HS1 := Lib.hid hS1
        have HB0 := Lib.hid (show Ad2 wr s bm bg room S1 G F (.slice ad F.length cp) [] wr from ⟨Keeps.refl _ _, by have := hA.st; rw [List.take_length] at this; rw [hS1]; exact this, ⟨G, hA.gv, fun k => rfl⟩, hA.row⟩)
        have HU := Lib.hid (show ∀ x ∈ S1, 0 ≤ x.2.2.used ∧ x.2.2.used ≤ 1000000000 from fun x hx => by
          rw [hS1] at hx
          rcases List.mem_append.1 hx with hx | hx
          · exact HSU.out x hx
          · obtain ⟨t, ht, _, e⟩ := given_is HG2.out.is (picks_mem hx).1
            rw [e]; exact ⟨Int.le_refl _, by show (0 : Int) ≤ 1000000000; decide⟩)
        have HR1 := Lib.hid (show ∀ r ∈ F.flatMap (refsO G), (atL S1 r.data.toList).isSome = true from fun r hr => by
          rw [hS1, HFE.out]
          refine s1_has2 HP.out ?_
          have := HP.out.is
          rw [List.take_length, ← HFE.out] at this
          rw [this]; exact List.mem_cons_of_mem _ hr)
        obtain ⟨w5, hw5⟩ : ∃ w5, w5 = wr := ⟨_, rfl⟩
        have HW5 := Lib.hid hw5
        have HRK5 := Lib.hid (show RK w1 w5 by rw [hw5]; exact HRK.out)
        rw [← hw5] at HB0
        have HB0 := Lib.hid (show Ad2 w5 s bm bg room S1 G F (.slice ad F.length cp) [] wr by rw [← hw5]; exact HB0.out)
        have HA1 := Lib.hid (show Keeps (fun z => z = bm) w4 w5 by rw [hw5]; exact hA.kp)
        clear HA0 hA HA hS1 hw5
        go_wp2_with fail
        go_loopw [61] (fun iv wr => AdR2 w5 s bm bg room S1 G F (.slice ad F.length cp) iv wr ∧ RK w1 wr) (fun iv _ => F.length - (intOf iv).toNat)
        case atStart => exact ⟨⟨0, Nat.zero_le _, rfl, HB0.out⟩, by rw [← HW5.out]; exact HRK5.out⟩
        case round =>
          obtain ⟨⟨i, hi2, rfl, hA⟩, hrk2⟩ := hrel
          have HRKB := Lib.hid hrk2
          clear hrk2
          by_cases hlt2 : i < F.length
          · have b1 : (i : Int) < (F.length : Int) := by omega
            obtain ⟨x, hx⟩ : ∃ x, F[i]? = some x := ⟨_, List.getElem?_eq_getElem hlt2⟩
            obtain ⟨ax, cx, hh, hcell⟩ := (own_rd hA.row).slice
            obtain ⟨ba2, oa2, hao, hqa⟩ := hcell i x hx
            subst hao
            cases hh
            obtain ⟨y, hy⟩ := Option.isSome_iff_exists.1 (HFG.out x (List.mem_of_getElem? hx))
            obtain ⟨G', hG1, hG2⟩ := hA.gv
            have hk := hG2 x.data.toList
            rw [hy] at hk
            obtain ⟨y', hy', hk⟩ := Option.map_eq_some_iff.1 hk
            have hlk := hG1.look x false
            rw [hy'] at hlk
            unfold ptrO at hlk
            simp only [Bool.false_eq_true, if_false] at hlk
            obtain ⟨rv, hIb, hIr⟩ := (hG1.items y' (atL_mem hy').1).cells
            have hyr : y'.2.2.refs = refsO G x := by rw [refsO_some hy]; exact congrArg (fun z => z.2.2) hk
            obtain ⟨R, hR⟩ : ∃ R, R = refsO G x := ⟨_, rfl⟩
            rw [hyr, ← hR] at hIr
            obtain ⟨ar, cr, rfl⟩ := row_slice hIr
            have qr := hIb.cell (i := 1) (v := .slice ar R.length cr) (by rfl)
            obtain ⟨T, hT⟩ : ∃ T, T = (F.take i).flatMap (refsO G) := ⟨_, rfl⟩
            have HT1 := Lib.hid (show (F.take (i + 1)).flatMap (refsO G) = T ++ R by rw [List.take_add_one, hx, List.flatMap_append, hT, hR]; simp)
            have HTL := Lib.hid (show T.length ≤ 16000 by
              have := flatG_len2 HSH.out (F.take i)
              rw [hT]; rw [List.length_take] at this; omega)
            have HRL := Lib.hid (show R.length ≤ 16 by rw [hR, refsO_some hy]; exact HSH.out.refs y (atL_mem hy).1)
            have HRR := Lib.hid (show ∀ r ∈ R, (atL S1 r.data.toList).isSome = true from fun r hr => HR1.out r (List.mem_flatMap.2 ⟨x, List.mem_of_getElem? hx, by rw [← hR]; exact hr⟩))
            rw [← hT] at hA
            have HA3 := Lib.hid (show AdR3 w5 s bm bg room S1 G F (.slice (some ⟨ba2, oa2, none⟩) F.length cp) T R (.slice ar R.length cr) (.int .i64 0) wr from ⟨0, Nat.zero_le _, rfl, by rw [List.take_zero, List.append_nil]; exact hA, hIr⟩)
            obtain ⟨yb, hyb⟩ : ∃ yb, yb = y'.2.1 := ⟨_, rfl⟩
            rw [← hyb] at hlk qr
            clear hcell hx hy hG1 hG2 hk hy' hIb hIr hyr hR hT hA hyb
            go_wp2_with fail
            go_loopw [72] (fun jv wr2 => AdR3 w5 s bm bg room S1 G F (.slice (some ⟨ba2, oa2, none⟩) F.length cp) T R (.slice ar R.length cr) jv wr2 ∧ RK w1 wr2) (fun jv _ => R.length - (intOf jv).toNat)
            case atStart => exact ⟨HA3.out, HRKB.out⟩
            case round =>
              obtain ⟨⟨j, hj, rfl, hB, hrw⟩, hrk3⟩ := hrel
              have HRKC := Lib.hid hrk3
              clear hrk3
              by_cases hlt3 : j < R.length
              · have b2 : (j : Int) < (R.length : Int) := by omega
                obtain ⟨z, hz⟩ : ∃ z, R[j]? = some z := ⟨_, List.getElem?_eq_getElem hlt3⟩
                obtain ⟨ax3, cx3, hh3, hcell3⟩ := (own_rd hrw).slice
                obtain ⟨ba3, oa3, hao3, hqa3⟩ := hcell3 j z hz
                subst hao3
                cases hh3
                have qs := hB.st.st.cell (i := 1) (v := .map (some bm)) (by rfl)
                obtain ⟨zb, u, hlk3, qu, fu, hu0, hu1, hB2, hrow2⟩ := hB.bump HU.out (by have := HTL.out; have := HRL.out; rw [List.length_append, List.length_take]; omega) z (HRR.out z (List.mem_of_getElem? hz))
                have hrl := HRL.out
                have hw1 : -9223372036854775808 ≤ u + 1 := by omega
                have hw2 : u + 1 ≤ 9223372036854775807 := by omega
                have HB2 := Lib.hid (And.intro (show Ad2 w5 s bm bg room S1 G F (.slice (some ⟨ba2, oa2, none⟩) F.length cp) (T ++ R.take (j + 1)) _ by rw [List.take_add_one, hz, ← List.append_assoc]; exact hB2) (hrow2 _ _ _ hrw))
                clear hcell3 hz hB hrw hB2 hrow2 hlk qr
                go_wp2_with fail
                go_roundw
                case rel => exact ⟨⟨j + 1, by omega, by go_num, HB2.out.1, HB2.out.2⟩, HRKC.out.set zb (.inl rfl) _⟩
                case measure => simp [intOf]; omega
              · have hje : j = R.length := by omega
                subst hje
                rw [List.take_length, ← HT1.out] at hB
                have HB4 := Lib.hid hB
                clear hB hrw HA3 hlk qr
                go_wp2_with fail
                go_roundw
                case rel => exact ⟨⟨i + 1, by omega, by go_num, HB4.out⟩, HRKC.out⟩
                case measure => simp [intOf]; omega
          · have hie2 : i = F.length := by omega
            subst hie2
            rw [List.take_length] at hA
            have HB5 := Lib.hid hA
            have hroot : (atL S1 rt.data.toList).isSome = true := by
              rw [HS1.out, HFE.out]
              exact s1_has2 HP.out (by rw [HP.out.is]; exact List.mem_cons_self)
            have HHD := Lib.hid (show ∀ x ∈ S1, 0 ≤ x.2.2.held ∧ x.2.2.held ≤ 1000000000 from fun x hx => by
              rw [HS1.out] at hx
              rcases List.mem_append.1 hx with hx | hx
              · exact HSHD.out x hx
              · obtain ⟨t, ht, _, e⟩ := given_is HG2.out.is (picks_mem hx).1
                rw [e]; exact ⟨Int.le_refl _, by show (0 : Int) ≤ 1000000000; decide⟩)
            have qs := hA.st.st.cell (i := 1) (v := .map (some bm)) (by rfl)
            obtain ⟨zb, u, hlk3, qu, fu, hu0, hu1, hSE, hKE⟩ := hA.hold HHD.out rt hroot
            have hw1 : -9223372036854775808 ≤ u + 1 := by omega
            have hw2 : u + 1 ≤ 9223372036854775807 := by omega
            have HSE := Lib.hid hSE
            have HKE := Lib.hid (((HG2.out.ext.trans HF.out.ext).trans HE4.out).mono (G := fun z => z = bm ∨ z ∈ S.map (·.2.1)) (fun _ _ g => g.elim))
            have HK5 := Lib.hid hKE
            have HKA := Lib.hid HA1.out
            clear hA HB0 HA1 hSE hKE hroot
            go_wp2_with fail
            go_ret2
            refine .inr ⟨top, G, M, HTOP.out, HG2.out.is, HND0.out, HG2.out.news, by rw [← HRT.out]; exact HP.out, by rw [← HFE.out, ← HM.out]; exact Int.not_lt.2 hfull, by rw [HRT.out]; rfl, ?_, ?_, ((RK.refl w).ext HG1.out).trans (HRKB.out.set zb (.inr rfl) _), HRN.out.rk (HRKB.out.set zb (.inr rfl) _) HGI.out⟩
            · rw [← HFE.out, ← HS1.out, ← HRT.out]; exact HSE.out
            · refine (Keeps.trans' (F := fun z => z = bm ∨ z ∈ S.map (·.2.1)) HKE.out HKA.out (fun z hz e => .inl e)).trans' HK5.out (fun z hz e => ?_)
              rw [HS1.out, List.map_append] at e
              rcases List.mem_append.1 e with e | e
              · exact .inr e
              · obtain ⟨y, hy, rfl⟩ := List.mem_map.1 e
                have := HG2.out.news y (picks_mem hy).1
                omega
theorem add_any (w : World) (hc : Cubes w) (hGE : ErrT w) (s bm : Nat) (room : Int) (S : List Nd5) (h : StoreAt w s bm room S) (v : Value) (L : List ByteArray) (hv : RdS w v L) (hL : AnyL L) (hll : L.length ≤ 1000) (hr0 : 0 ≤ room) (hr1 : room ≤ 9223372036854775807) (hS : S.length ≤ 100000) (hSu : ∀ x ∈ S, 0 ≤ x.2.2.used ∧ x.2.2.used ≤ 1000000000) (hSh : ∀ x ∈ S, 0 ≤ x.2.2.held ∧ x.2.2.held ≤ 1000000000) :
    Calls Tryz.prog 13 #[.pointer (some ⟨s, 0, none⟩), v] w (AddAny w s bm room S L) := by
  cases hL0 : L with
  | nil =>
    subst hL0
    obtain ⟨a, c, rfl, _⟩ := hv.slice
    exact (add_nil w _ a c).mono fun e w' ⟨h1, h2⟩ => .inl ⟨2, by decide, h1, h2⟩
  | cons t L' =>
    rw [← hL0]
    exact add_some w hc hGE s bm room S h v L hv hL hll t (by rw [hL0]; rfl) hr0 hr1 hS hSu hSh
end
end Go.Proofs.YtjogjmffkmfmbaaGreatDoor
/- store: Held, Count. -/
namespace Go.Proofs.YtjogjmffkmfmbaaGreatDoor
section
open Go Go.RowKit
set_option linter.unusedSimpArgs false
set_option linter.unusedVariables false
set_option maxRecDepth 100000 in
set_option maxHeartbeats 4000000 in
theorem sheld_c (w : World) (s bm : Nat) (room : Int) (L : List Nd5) (k : ByteArray) (h : StoreAt w s bm room L) : Calls Tryz.prog 45 #[.pointer (some ⟨s, 0, none⟩), .string k] w fun e w' => e = .returned (.int .i64 (heldO (atL L k.data.toList))) ∧ Ext w w' := by
  have q1 := h.st.cell (i := 1) (v := .map (some bm)) (by rfl)
  have hlk := h.mp.look k true
  have HI := Lib.hid h.mp.items
  simp only [if_true] at hlk
  clear h
  cases ha : atL L k.data.toList with
  | none =>
    rw [ha] at hlk
    unfold ptrO at hlk
    simp only [Option.isSome] at hlk
    clear ha
    go_enter Tryz.func45, Tryz.ntmps45
    go_wp2_with fail
    go_ret
    exact ⟨rfl, ExtR w⟩
  | some x =>
    rw [ha] at hlk
    obtain ⟨rv, hB, _⟩ := (HI.out x (atL_mem ha).1).cells
    have q2 := hB.cell (i := 3) (v := .int .i64 x.2.2.held) (by rfl)
    unfold ptrO at hlk
    simp only [Option.isSome] at hlk
    clear ha hB
    go_enter Tryz.func45, Tryz.ntmps45
    go_wp2_with fail
    go_ret
    exact ⟨rfl, ExtR w⟩
set_option maxRecDepth 100000 in
set_option maxHeartbeats 4000000 in
theorem scount_c (w : World) (s bm : Nat) (room : Int) (L : List Nd5) (k : ByteArray) (h : StoreAt w s bm room L) (hb : ∀ x ∈ L, -1000000000 ≤ x.2.2.used ∧ x.2.2.used ≤ 1000000000 ∧ -1000000000 ≤ x.2.2.held ∧ x.2.2.held ≤ 1000000000) : Calls Tryz.prog 43 #[.pointer (some ⟨s, 0, none⟩), .string k] w fun e w' => e = .returned (.int .i64 (countO (atL L k.data.toList))) ∧ Ext w w' := by
  have q1 := h.st.cell (i := 1) (v := .map (some bm)) (by rfl)
  have hlk := h.mp.look k true
  have HI := Lib.hid h.mp.items
  simp only [if_true] at hlk
  clear h
  cases ha : atL L k.data.toList with
  | none =>
    rw [ha] at hlk
    unfold ptrO at hlk
    simp only [Option.isSome] at hlk
    clear ha hb
    go_enter Tryz.func43, Tryz.ntmps43
    go_wp2_with fail
    go_ret
    exact ⟨rfl, ExtR w⟩
  | some x =>
    rw [ha] at hlk
    have hbx := hb x (atL_mem ha).1
    obtain ⟨rv, hB, _⟩ := (HI.out x (atL_mem ha).1).cells
    have Q2 := Lib.hid (hB.cell (i := 2) (v := .int .i64 x.2.2.used) (by rfl))
    have Q3 := Lib.hid (hB.cell (i := 3) (v := .int .i64 x.2.2.held) (by rfl))
    unfold ptrO at hlk
    simp only [Option.isSome] at hlk
    obtain ⟨ky, b, ⟨tx, rf, us, hd⟩⟩ := x
    simp only at hlk Q2 Q3 hbx
    have hs1 : -9223372036854775808 ≤ us + hd := by omega
    have hs2 : us + hd ≤ 9223372036854775807 := by omega
    clear ha hB hb
    go_enter Tryz.func43, Tryz.ntmps43
    go_wp2_with fail
    refine wp_region_mixK [0,1,2,3,4,5,6,7,8,9] Ext ExtR ExtT (by kernel_rfl) (by kernel_rfl) (by kernel_rfl) ?_
    iterate 1 (refine mixk_pure _ rfl (by kernel_rfl) rfl rfl (fun K hK => ?_); go_big_quiet_op; refine hK _ ?_; clear hK K)
    refine mixk_val _ (.pointer (some ⟨b, 0, none⟩)) rfl (by kernel_rfl) rfl (fun w1 _ => by kernel_rfl) ?_
    simp only [Act.put, List.setIfInBounds_toArray, List.set_cons_zero, List.set_cons_succ]
    iterate 1 (refine mixk_pure _ rfl (by kernel_rfl) rfl rfl (fun K hK => ?_); go_big_quiet_op; refine hK _ ?_; clear hK K)
    refine mixk_load ⟨b, 2, none⟩ _ rfl (by kernel_rfl) rfl rfl (fun w1 h1 => run_load_plain Tryz.underlying3 rfl (cell_ext Q2.out ((drewE _).trans h1))) ?_
    simp only [Act.put, List.setIfInBounds_toArray, List.set_cons_zero, List.set_cons_succ]
    iterate 1 (refine mixk_pure _ rfl (by kernel_rfl) rfl rfl (fun K hK => ?_); go_big_quiet_op; refine hK _ ?_; clear hK K)
    refine mixk_val _ (.pointer (some ⟨b, 0, none⟩)) rfl (by kernel_rfl) rfl (fun w1 _ => by kernel_rfl) ?_
    simp only [Act.put, List.setIfInBounds_toArray, List.set_cons_zero, List.set_cons_succ]
    iterate 1 (refine mixk_pure _ rfl (by kernel_rfl) rfl rfl (fun K hK => ?_); go_big_quiet_op; refine hK _ ?_; clear hK K)
    refine mixk_load ⟨b, 3, none⟩ _ rfl (by kernel_rfl) rfl rfl (fun w1 h1 => run_load_plain Tryz.underlying3 rfl (cell_ext Q3.out ((drewE _).trans h1))) ?_
    simp only [Act.put, List.setIfInBounds_toArray, List.set_cons_zero, List.set_cons_succ]
    iterate 2 (refine mixk_pure _ rfl (by kernel_rfl) rfl rfl (fun K hK => ?_); go_big_quiet_op; refine hK _ ?_; clear hK K)
    refine mixk_end (by kernel_rfl) (fun w3 he => ?_)
    have HE := Lib.hid ((drewE _).trans he)
    clear he
    go_wp2_with fail
    go_ret
    exact ⟨rfl, HE.out⟩
end
end Go.Proofs.YtjogjmffkmfmbaaGreatDoor
/- store: Drop, of a root that is held still. -/
namespace Go.Proofs.YtjogjmffkmfmbaaGreatDoor
section
open Go Go.RowKit
set_option linter.unusedSimpArgs false
set_option linter.unusedVariables false
attribute [local go_sem] Oper.semAt_some
theorem StoreAt.setH {W : World} {s bm : Nat} {room : Int} {S : List Nd5} (h : StoreAt W s bm room S) {k : Key} {y : Nd5} (hy : atL S k = some y) (v : Int) : StoreAt (W.setCell ⟨y.2.1, 3, none⟩ (.int .i64 v)) s bm room (S.map (setB 3 y.2.1 v)) := by
  have hi := h.mp.items y (atL_mem hy).1
  obtain ⟨rv, hb, _⟩ := hi.cells
  have hK : Keeps (fun z => z = y.2.1) W (W.setCell ⟨y.2.1, 3, none⟩ (.int .i64 v)) := Keeps.oneSet W ⟨y.2.1, 3, none⟩ _
  refine ⟨h.st.keeps hK (fun e => ?_), h.mp.setF hi (.inr rfl) v⟩
  have e : s = y.2.1 := e
  rw [e] at h
  have := hb.uniq h.st; injection this with _ h2; exact absurd h2 (by decide)
def DrRel (w5 : World) (g : Nat) (v : Value) (W : World) : Prop := Ext w5 W ∧ (v = .slice (some ⟨g, 0, none⟩) 1 1 ∨ ∃ a c, v = .slice a 0 c)
set_option maxRecDepth 100000 in
set_option maxHeartbeats 8000000 in
theorem drop_more (w : World) (s bm : Nat) (room : Int) (S : List Nd5) (h : StoreAt w s bm room S) (hb : ∀ x ∈ S, 0 ≤ x.2.2.used ∧ x.2.2.used ≤ 1000000000 ∧ 0 ≤ x.2.2.held ∧ x.2.2.held ≤ 1000000000) (k : ByteArray) (y : Nd5) (hy : atL S k.data.toList = some y) (h1 : 1 ≤ y.2.2.held) (h2 : 2 ≤ y.2.2.used + y.2.2.held) :
    Calls Tryz.prog 39 #[.pointer (some ⟨s, 0, none⟩), .string k] w fun e w' => e = .returned (.int .i64 0) ∧ StoreAt w' s bm room (S.map (setB 3 y.2.1 (y.2.2.held - 1))) ∧ Keeps (fun z => z = y.2.1) w w' := by
  have HS := Lib.hid h
  have HB := Lib.hid hb
  have HY := Lib.hid hy
  have hym := (atL_mem hy).1
  have hbd := hb y hym
  have hc := sheld_c w s bm room S k h
  rw [hy] at hc
  obtain ⟨yb, hyb⟩ : ∃ yb, yb = y.2.1 := ⟨_, rfl⟩
  obtain ⟨hd, hhd⟩ : ∃ hd, hd = y.2.2.held := ⟨_, rfl⟩
  obtain ⟨us, hus⟩ : ∃ us, us = y.2.2.used := ⟨_, rfl⟩
  have hho : heldO (some y) = hd := hhd.symm
  rw [hho] at hc
  rw [← hhd, ← hus] at hbd h2
  rw [← hhd] at h1
  rw [← hyb, ← hhd]
  have HYB := Lib.hid hyb
  have HHD := Lib.hid hhd
  have HUS := Lib.hid hus
  have HC := Lib.hid hc
  have hnz : (hd == 0) = false := by simp; omega
  clear h hb hy hym hc hyb hhd hus hho
  go_enter Tryz.func39, Tryz.ntmps39
  go_wp2_with fail
  refine HC.out.mono ?_
  rintro e w1 ⟨rfl, hE⟩
  have h := HS.out.ext hE
  have hyb := HYB.out
  have hhd := HHD.out
  have hus := HUS.out
  have hy := HY.out
  have hym := (atL_mem hy).1
  have hst : StoreAt (w1.setCell ⟨yb, 3, none⟩ (.int .i64 (hd - 1))) s bm room (S.map (setB 3 yb (hd - 1))) := by rw [hyb]; exact h.setH hy _
  have hK : Keeps (fun z => z = yb) w1 (w1.setCell ⟨yb, 3, none⟩ (.int .i64 (hd - 1))) := Keeps.oneSet w1 ⟨yb, 3, none⟩ _
  have hat : atL (S.map (setB 3 yb (hd - 1))) k.data.toList = some (setB 3 yb (hd - 1) y) := by rw [atL_setB, hy]; rfl
  have hcn : countO (atL (S.map (setB 3 yb (hd - 1))) k.data.toList) = us + (hd - 1) := by
    rw [hat]; unfold setB; rw [if_pos hyb.symm, hus]; rfl
  have hcb : ∀ x ∈ S.map (setB 3 yb (hd - 1)), -1000000000 ≤ x.2.2.used ∧ x.2.2.used ≤ 1000000000 ∧ -1000000000 ≤ x.2.2.held ∧ x.2.2.held ≤ 1000000000 := fun x hx => by
    obtain ⟨z, hz, rfl⟩ := List.mem_map.1 hx
    have := HB.out z hz
    unfold setB
    split
    · show -1000000000 ≤ z.2.2.used ∧ z.2.2.used ≤ 1000000000 ∧ -1000000000 ≤ hd - 1 ∧ hd - 1 ≤ 1000000000
      omega
    · omega
  have hlk := h.mp.look k false
  rw [hy] at hlk
  unfold ptrO at hlk
  simp only [Bool.false_eq_true, if_false] at hlk
  rw [← hyb] at hlk
  obtain ⟨S', hS'⟩ : ∃ S', S' = S.map (setB 3 yb (hd - 1)) := ⟨_, rfl⟩
  rw [← hS'] at hst hcn hcb
  have HS' := Lib.hid hS'
  obtain ⟨rv, hBk, _⟩ := (h.mp.items y hym).cells
  rw [← hyb, ← hhd] at hBk
  have qs := h.st.cell (i := 1) (v := .map (some bm)) (by rfl)
  have qh := hBk.cell (i := 3) (v := .int .i64 hd) (by rfl)
  have fh : w1.frozen? ⟨yb, 3, none⟩ = false := hBk.frozen
  have HST := Lib.hid hst
  have HCN := Lib.hid hcn
  have HCB := Lib.hid hcb
  have HK := Lib.hid ((hE.mono (G := fun z => z = yb) (fun _ _ g => g.elim)).trans hK)
  have hw1 : -9223372036854775808 ≤ hd - 1 := by omega
  have hw2 : hd - 1 ≤ 9223372036854775807 := by omega
  clear h hy hym hyb hhd hus hst hcn hcb hK hat hS' hBk HS HC hE HY HB
  obtain ⟨w2, hw2'⟩ : ∃ w2, w2 = w1.setCell ⟨yb, 3, none⟩ (.int .i64 (hd - 1)) := ⟨_, rfl⟩
  have HW2 := Lib.hid hw2'
  rw [← hw2'] at HST HK
  go_wp2_with fail
  rw [← hw2']
  clear hw2' qs qh fh hlk
  obtain ⟨g, hg⟩ : ∃ g, g = w1.heap.size := ⟨_, rfl⟩
  have hgw : w2.heap.size = g := by rw [HW2.out, hg]; simp
  rw [← hg]
  clear hg
  obtain ⟨w3, hw3⟩ : ∃ w3, w3 = w2.alloc (.cells #[.string k] 9) := ⟨_, rfl⟩
  rw [← hw3]
  have HE3 := Lib.hid (show Ext w2 w3 by rw [hw3]; exact (ExtR w2).alloc _)
  have HQ := Lib.hid (show w3.cell? ⟨g, 0, none⟩ = some (.string k) by
    have := (Blk.new w2 (.cells #[.string k] 9)).cell (i := 0) (v := .string k) (by rfl)
    rw [← hw3, hgw] at this; exact this)
  have HST3 := Lib.hid (HST.out.ext HE3.out)
  clear hw3 hgw
  obtain ⟨cn, hcn⟩ : ∃ cn, cn = us + (hd - 1) := ⟨_, rfl⟩
  have hp : 0 < cn := by omega
  rw [← hcn] at HCN
  clear hcn
  go_loopw [5] (fun v wr => DrRel w3 g v wr) (fun v _ => slN v)
  case atStart => exact ⟨ExtR w3, .inl rfl⟩
  case round =>
    obtain ⟨hX, rfl | ⟨a, c, rfl⟩⟩ := hrel
    · have q1 := cell_ext HQ.out hX
      have HX := Lib.hid hX
      clear hX
      go_wp2_with fail
      refine (scount_c wr s bm room S' k (HST3.out.ext HX.out) HCB.out).mono ?_
      rintro e w5 ⟨rfl, hE⟩
      rw [HCN.out]
      have HE5 := Lib.hid (HX.out.trans hE)
      clear hE q1
      go_wp2_with fail
      go_roundw
      case rel => exact ⟨HE5.out, .inr ⟨_, _, rfl⟩⟩
      case measure => simp [slN]
    · have HX := Lib.hid hX
      clear hX
      go_wp2_with fail
      go_ret
      refine ⟨rfl, ?_, ?_⟩
      · rw [← HS'.out]; exact HST3.out.ext HX.out
      · skip
        exact HK.out.trans ((HE3.out.trans HX.out).mono (fun _ _ g => g.elim))
end
end Go.Proofs.YtjogjmffkmfmbaaGreatDoor
/- store: Drop, of a root without refs that is held no more. -/
namespace Go.Proofs.YtjogjmffkmfmbaaGreatDoor
section
open Go Go.RowKit
set_option linter.unusedSimpArgs false
set_option linter.unusedVariables false
attribute [local go_sem] Oper.semAt_some
def delL (L : List Nd5) (k : Key) : List Nd5 := L.filter fun x => !decide (k = x.1)
theorem delV_eq (k : Key) : ∀ L : List Nd5, (L.map (·.1)).Nodup → delV (L.map kvN) k = (delL L k).map kvN
  | [], _ => rfl
  | x :: r, h => by
    rw [List.map_cons, List.nodup_cons] at h
    rw [List.map_cons, delV]
    unfold delL
    by_cases e : k = x.1
    · rw [if_pos (show k = (kvN x).1 from e), List.filter_cons_of_neg (by simp [e])]
      congr 1
      symm
      rw [List.filter_eq_self]
      intro y hy
      have : k ≠ y.1 := fun e2 => h.1 (List.mem_map.2 ⟨y, hy, by rw [← e2, e]⟩)
      simpa using this
    · rw [if_neg (show ¬ k = (kvN x).1 from e), List.filter_cons_of_pos (by simp [e]), List.map_cons, delV_eq k r h.2]; rfl
theorem MapAt.del {W : World} {bm : Nat} {L : List Nd5} (h : MapAt W bm L) (k : ByteArray) :
    ∃ o, (∀ kt r, (Builtin.delete_ #[92, kt] r #[.map (some bm), .string k]).run Tryz.prog W = .ok (.tuple #[]) (W.putObj bm o)) ∧ MapAt (W.putObj bm o) bm (delL L k.data.toList) := by
  obtain ⟨es, ck, h1, h2⟩ := h.mp
  have hk := h2.keys
  rw [List.map_map] at hk
  have hk : (L.map (·.1)).Nodup := hk
  have hd := h2.del k.data.toList
  rw [delV_eq _ L hk] at hd
  have hK : Keeps (fun z => z = bm) W (W.putObj bm (.map (Tryz.ES.arr (entDel es k.data.toList)) ck)) := Keeps.onePut W bm _
  have hs : (delL L k.data.toList).Sublist L := List.filter_sublist
  refine ⟨_, fun kt r => run_delete Tryz.ES Tryz.uMapIt h1 k.data.toList kt r, ⟨_, _, h1.put_same _, hd⟩, h.blks.sublist (hs.map _), fun x hx => ?_⟩
  have hi := h.items x (hs.subset hx)
  refine hi.keeps hK (fun e => ?_) h.notRow
  obtain ⟨_, hc, _⟩ := hi.cells
  have e : x.2.1 = bm := e
  rw [e] at hc
  have := h1.uniq hc; cases this
def DlRel (w3 : World) (s bm : Nat) (room : Int) (S' : List Nd5) (g : Nat) (v : Value) (W : World) : Prop := (Ext w3 W ∧ v = .slice (some ⟨g, 0, none⟩) 1 1) ∨ ((∃ a c, v = .slice a 0 c) ∧ StoreAt W s bm room S' ∧ Keeps (fun z => z = bm) w3 W)
set_option maxRecDepth 100000 in
set_option maxHeartbeats 8000000 in
theorem drop_last (w : World) (s bm : Nat) (room : Int) (S : List Nd5) (h : StoreAt w s bm room S) (hb : ∀ x ∈ S, 0 ≤ x.2.2.used ∧ x.2.2.used ≤ 1000000000 ∧ 0 ≤ x.2.2.held ∧ x.2.2.held ≤ 1000000000) (k : ByteArray) (y : Nd5) (hy : atL S k.data.toList = some y) (h1 : y.2.2.held = 1) (h2 : y.2.2.used = 0) (hrf : y.2.2.refs = []) :
    Calls Tryz.prog 39 #[.pointer (some ⟨s, 0, none⟩), .string k] w fun e w' => e = .returned (.int .i64 0) ∧ StoreAt w' s bm room (delL (S.map (setB 3 y.2.1 (y.2.2.held - 1))) k.data.toList) ∧ Keeps (fun z => z = y.2.1 ∨ z = bm) w w' := by
  have HS := Lib.hid h
  have HB := Lib.hid hb
  have HY := Lib.hid hy
  have hym := (atL_mem hy).1
  have hbd := hb y hym
  have hc := sheld_c w s bm room S k h
  rw [hy] at hc
  obtain ⟨yb, hyb⟩ : ∃ yb, yb = y.2.1 := ⟨_, rfl⟩
  obtain ⟨hd, hhd⟩ : ∃ hd, hd = y.2.2.held := ⟨_, rfl⟩
  obtain ⟨us, hus⟩ : ∃ us, us = y.2.2.used := ⟨_, rfl⟩
  have hho : heldO (some y) = hd := hhd.symm
  rw [hho] at hc
  rw [← hhd, ← hus] at hbd
  rw [← hus] at h2
  rw [← hhd] at h1
  rw [← hyb, ← hhd]
  have HYB := Lib.hid hyb
  have HHD := Lib.hid hhd
  have HUS := Lib.hid hus
  have HC := Lib.hid hc
  have hnz : (hd == 0) = false := by simp; omega
  have HRF := Lib.hid hrf
  have H1 := Lib.hid h1
  have H2 := Lib.hid h2
  clear h hb hy hym hc hyb hhd hus hho hrf h1 h2
  go_enter Tryz.func39, Tryz.ntmps39
  go_wp2_with fail
  refine HC.out.mono ?_
  rintro e w1 ⟨rfl, hE⟩
  have h := HS.out.ext hE
  have hyb := HYB.out
  have hhd := HHD.out
  have hus := HUS.out
  have hy := HY.out
  have hym := (atL_mem hy).1
  have hst : StoreAt (w1.setCell ⟨yb, 3, none⟩ (.int .i64 (hd - 1))) s bm room (S.map (setB 3 yb (hd - 1))) := by rw [hyb]; exact h.setH hy _
  have hK : Keeps (fun z => z = yb) w1 (w1.setCell ⟨yb, 3, none⟩ (.int .i64 (hd - 1))) := Keeps.oneSet w1 ⟨yb, 3, none⟩ _
  have hat : atL (S.map (setB 3 yb (hd - 1))) k.data.toList = some (setB 3 yb (hd - 1) y) := by rw [atL_setB, hy]; rfl
  have hcn : countO (atL (S.map (setB 3 yb (hd - 1))) k.data.toList) = us + (hd - 1) := by
    rw [hat]; unfold setB; rw [if_pos hyb.symm, hus]; rfl
  have hcb : ∀ x ∈ S.map (setB 3 yb (hd - 1)), -1000000000 ≤ x.2.2.used ∧ x.2.2.used ≤ 1000000000 ∧ -1000000000 ≤ x.2.2.held ∧ x.2.2.held ≤ 1000000000 := fun x hx => by
    obtain ⟨z, hz, rfl⟩ := List.mem_map.1 hx
    have := HB.out z hz
    unfold setB
    split
    · show -1000000000 ≤ z.2.2.used ∧ z.2.2.used ≤ 1000000000 ∧ -1000000000 ≤ hd - 1 ∧ hd - 1 ≤ 1000000000
      omega
    · omega
  have hlk := h.mp.look k false
  rw [hy] at hlk
  unfold ptrO at hlk
  simp only [Bool.false_eq_true, if_false] at hlk
  rw [← hyb] at hlk
  obtain ⟨S', hS'⟩ : ∃ S', S' = S.map (setB 3 yb (hd - 1)) := ⟨_, rfl⟩
  rw [← hS'] at hst hcn hcb
  have HS' := Lib.hid hS'
  obtain ⟨rv, hBk, hRw⟩ := (h.mp.items y hym).cells
  rw [HRF.out] at hRw
  obtain ⟨ar, cr, rfl⟩ := row_slice hRw
  rw [← hyb, ← hhd] at hBk
  have qs := h.st.cell (i := 1) (v := .map (some bm)) (by rfl)
  have qh := hBk.cell (i := 3) (v := .int .i64 hd) (by rfl)
  have fh : w1.frozen? ⟨yb, 3, none⟩ = false := hBk.frozen
  have HST := Lib.hid hst
  have HQR := Lib.hid (show (w1.setCell ⟨yb, 3, none⟩ (.int .i64 (hd - 1))).cell? ⟨yb, 1, none⟩ = some (.slice ar 0 cr) from (hBk.set_same (i := 3) (.int .i64 (hd - 1))).cell (i := 1) (by rfl))
  have HAT := Lib.hid (show ptrO (atL S' k.data.toList) = .pointer (some ⟨yb, 0, none⟩) by rw [hS', hat]; unfold setB; rw [if_pos hyb.symm]; show Value.pointer (some ⟨y.2.1, 0, none⟩) = _; rw [hyb])
  have HCN := Lib.hid hcn
  have HCB := Lib.hid hcb
  have HK := Lib.hid ((hE.mono (G := fun z => z = yb) (fun _ _ g => g.elim)).trans hK)
  have hw1 : -9223372036854775808 ≤ hd - 1 := by omega
  have hw2 : hd - 1 ≤ 9223372036854775807 := by omega
  clear h hy hym hyb hhd hus hst hcn hcb hK hat hS' hBk hRw HS HC hE HY HB
  obtain ⟨w2, hw2'⟩ : ∃ w2, w2 = w1.setCell ⟨yb, 3, none⟩ (.int .i64 (hd - 1)) := ⟨_, rfl⟩
  have HW2 := Lib.hid hw2'
  rw [← hw2'] at HST HK HQR
  go_wp2_with fail
  rw [← hw2']
  clear hw2' qs qh fh hlk
  obtain ⟨g, hg⟩ : ∃ g, g = w1.heap.size := ⟨_, rfl⟩
  have hgw : w2.heap.size = g := by rw [HW2.out, hg]; simp
  rw [← hg]
  clear hg
  obtain ⟨w3, hw3⟩ : ∃ w3, w3 = w2.alloc (.cells #[.string k] 9) := ⟨_, rfl⟩
  rw [← hw3]
  have HE3 := Lib.hid (show Ext w2 w3 by rw [hw3]; exact (ExtR w2).alloc _)
  have HQ := Lib.hid (show w3.cell? ⟨g, 0, none⟩ = some (.string k) by
    have := (Blk.new w2 (.cells #[.string k] 9)).cell (i := 0) (v := .string k) (by rfl)
    rw [← hw3, hgw] at this; exact this)
  have HST3 := Lib.hid (HST.out.ext HE3.out)
  clear hw3 hgw
  obtain ⟨cn, hcn⟩ : ∃ cn, cn = us + (hd - 1) := ⟨_, rfl⟩
  have hp : cn = 0 := by have := H1.out; have := H2.out; omega
  rw [← hcn] at HCN
  clear hcn
  subst hp
  go_loopw [5] (fun v wr => DlRel w3 s bm room (delL S' k.data.toList) g v wr) (fun v _ => slN v)
  case atStart => exact .inl ⟨ExtR w3, rfl⟩
  case round =>
    rcases hrel with ⟨hX, rfl⟩ | ⟨⟨a, c, rfl⟩, hS5, hK5⟩
    · have q1 := cell_ext HQ.out hX
      have HX := Lib.hid hX
      clear hX
      go_wp2_with fail
      refine (scount_c wr s bm room S' k (HST3.out.ext HX.out) HCB.out).mono ?_
      rintro e w5 ⟨rfl, hE⟩
      rw [HCN.out]
      have HE5 := Lib.hid (HX.out.trans hE)
      have hS5 := HST3.out.ext HE5.out
      have qs := hS5.st.cell (i := 1) (v := .map (some bm)) (by rfl)
      have qr := cell_ext (cell_ext HQR.out HE3.out) HE5.out
      have hlk := hS5.mp.look k false
      rw [HAT.out] at hlk
      simp only [Bool.false_eq_true, if_false] at hlk
      obtain ⟨ob, hdl, hM⟩ := hS5.mp.del k
      have hKd : Keeps (fun z => z = bm) w5 (w5.putObj bm ob) := Keeps.onePut w5 bm ob
      have hSd : StoreAt (w5.putObj bm ob) s bm room (delL S' k.data.toList) := ⟨hS5.st.keeps hKd (fun e => by
        have e : s = bm := e
        obtain ⟨es, ck, h1, _⟩ := hS5.mp.mp
        subst e
        have := h1.uniq hS5.st; cases this), hM⟩
      have HSd := Lib.hid (And.intro hSd ((HE5.out.mono (G := fun z => z = bm) (fun _ _ g => g.elim)).trans hKd))
      clear hE q1 hS5 hM hKd hSd
      go_wp2_with fail
      go_loopw [5, 65] (fun v5 iv wr2 => (∃ a c, v5 = .slice a 0 c) ∧ iv = .int .i64 0 ∧ wr2 = w5) (fun _ iv _ => 0)
      case atStart => exact ⟨⟨_, _, rfl⟩, rfl, rfl⟩
      case round =>
        obtain ⟨⟨a5, c5, rfl⟩, rfl, rfl⟩ := hrel
        go_wp2_with fail
        go_roundw
        case rel => exact .inr ⟨⟨_, _, rfl⟩, HSd.out.1, HSd.out.2⟩
        case measure => simp [slN]
    · have HS5 := Lib.hid hS5
      have HK5 := Lib.hid hK5
      clear hS5 hK5
      go_wp2_with fail
      go_ret
      refine ⟨rfl, ?_, ?_⟩
      · rw [← HS'.out]; exact HS5.out
      · exact ((HK.out.mono (G := fun z => z = yb ∨ z = bm) (fun _ _ g => .inl g)).trans (HE3.out.mono (fun _ _ g => g.elim))).trans (HK5.out.mono (fun _ _ g => .inr g))
end
end Go.Proofs.YtjogjmffkmfmbaaGreatDoor
/- law 06: Apart. -/
namespace Go.Proofs.YtjogjmffkmfmbaaGreatDoor
section
open Go Go.RowKit
set_option linter.unusedSimpArgs false
set_option linter.unusedVariables false
attribute [local go_sem] Oper.semAt_some
def InjL (l : List ByteArray) : Prop := ∀ x ∈ l, ∀ y ∈ l, shaB x = shaB y → x = y
theorem InjL.step {L : List ByteArray} {i : Nat} {t : ByteArray} (h : InjL (L.take i)) (ht : L[i]? = some t) (hs : ∀ x ∈ L.take i, shaB x = shaB t → x = t) : InjL (L.take (i + 1)) := by
  intro x hx y hy e
  rw [List.take_add_one, ht] at hx hy
  rcases List.mem_append.1 hx with h1 | h1 <;> rcases List.mem_append.1 hy with h2 | h2
  · exact h x h1 y h2 e
  · simp at h2; subst h2; exact hs x h1 e
  · simp at h1; subst h1; exact (hs y h2 e.symm).symm
  · simp at h1 h2; rw [h1, h2]
end
end Go.Proofs.YtjogjmffkmfmbaaGreatDoor
/- store: Add of one leaf, what it comes to. -/
namespace Go.Proofs.YtjogjmffkmfmbaaGreatDoor
section
open Go Go.RowKit
set_option linter.unusedSimpArgs false
set_option linter.unusedVariables false
theorem given_one {L : List ByteArray} {G : List Nd5} {t : ByteArray} (hG : G.map kvI = readG L) (hL : ∀ x ∈ L, x = t) (h0 : hashesT (nodeOf t) = []) (x : ByteArray) : refsO G x = [] := by
  unfold refsO
  split
  · rename_i y hy
    obtain ⟨t', ht', _, e⟩ := given_is hG (atL_mem hy).1
    rw [e, hL t' ht']; exact h0
  · rfl
theorem path_leaf {S G : List Nd5} {L : List ByteArray} {t : ByteArray} {M : List ByteArray} {i : Nat} (hG : G.map kvI = readG L) (hL : ∀ x ∈ L, x = t) (h0 : hashesT (nodeOf t) = []) (hP : Path S G (shaB t) M i) : M = [shaB t] := by
  have e : ∀ l : List ByteArray, l.flatMap (refsO G) = [] := fun l => by
    rw [List.flatMap_eq_nil_iff]; exact fun x _ => given_one hG hL h0 x
  have := hP.is
  rw [e] at this
  exact this
theorem frK_one (S : List Nd5) (r : ByteArray) : frK S [r] = if (atL S r.data.toList).isNone then [r] else [] := by
  have := frK_step S [] r
  rw [List.nil_append] at this
  rw [this, if_neg (by show ¬ memB [] r = true; simp [memB])]
  split <;> rfl
/-- The leaf is put: one item, held once. -/
theorem leaf_new {G : List Nd5} {L : List ByteArray} {t : ByteArray} (hG : G.map kvI = readG L) (hL : ∀ x ∈ L, x = t) (h0 : hashesT (nodeOf t) = []) (hm : t ∈ L) :
    ∃ b, b ∈ G.map (·.2.1) ∧ bumpH (shaB t).data.toList (bumps ([shaB t].flatMap (refsO G)) ([] ++ picks G [shaB t])) = [((shaB t).data.toList, b, ⟨t, [], 0, 1⟩)] := by
  obtain ⟨y, hy⟩ := Option.isSome_iff_exists.1 (given_has hG hm)
  obtain ⟨t', ht', e1, e2⟩ := given_is hG (atL_mem hy).1
  have ht : t' = t := hL t' ht'
  subst ht
  refine ⟨y.2.1, List.mem_map.2 ⟨y, (atL_mem hy).1, rfl⟩, ?_⟩
  have e3 : [shaB t'].flatMap (refsO G) = [] := by simp [given_one hG hL h0]
  have e4 : picks G [shaB t'] = [y] := by unfold picks; simp [hy]
  rw [e3, e4]
  show bumpH (shaB t').data.toList [y] = _
  unfold bumpH
  rw [List.map_cons, List.map_nil, if_pos (atL_mem hy).2, e2, (atL_mem hy).2]
  unfold itOf putF
  rw [h0]
  rfl
end
end Go.Proofs.YtjogjmffkmfmbaaGreatDoor
