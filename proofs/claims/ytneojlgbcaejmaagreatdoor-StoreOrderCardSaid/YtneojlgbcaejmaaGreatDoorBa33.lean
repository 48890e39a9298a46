/- Parts of the proof, one behind the other: CurC, PairEq, CurD, CurE. Each is under no condition but those that it states. -/
import Derived.Test.YtneojlgbcaejmaaGreatDoorBa26
import Derived.Test.YtneojlgbcaejmaaGreatDoorBa32
import Derived.Test.YtneojlgbcaejmaaGreatDoorBa21
/- cursor: fetch, settle. -/
namespace Go.Proofs.YtneojlgbcaejmaaGreatDoor
section
open Go Go.RowKit
set_option linter.unusedSimpArgs false
set_option linter.unusedVariables false
attribute [local go_sem] Oper.semAt_some
/-- The store has the text, by its hash. -/
def HasS (S : List Nd5) (t : ByteArray) : Prop := ∃ x, atL S (ky t) = some x ∧ x.2.2.text = t
set_option maxRecDepth 100000 in
set_option maxHeartbeats 4000000 in
theorem fetch_small (W : World) (c : Nat) (r q) (n : NodeT) (hn : n.refs.length = 16) (hr : r.size ≤ 1000) (hq : cutN r = some q) (hh : hashB r q = none) (hi : ∀ w, Calls Tryz.prog 99 #[.string r] w fun e w' => e = .returned (.tuple #[n.V, .bool true]) ∧ Ext w w') :
    Calls Tryz.prog 93 #[.pointer (some ⟨c, 0, none⟩), .string r] W fun e w' => e = .returned (.tuple #[n.V, .bool true]) ∧ Ext W w' := by
  have HQ := Lib.hid hq
  have HH := Lib.hid hh
  have HI := Lib.hid hi
  have HN := Lib.hid hn
  have HL := Lib.hid (n.cells_len hn)
  clear hq hh hi hn
  go_enter Tryz.func93, Tryz.ntmps93
  go_wp2_with (refine wpList_new Tryz.allocNode rfl rfl ?_; intro W1 hB1 hE1)
  refine (hash_c W1 r q (by omega) HQ.out).mono ?_
  rintro e w2 ⟨rfl, hE⟩
  rw [HH.out]
  unfold optV
  have HB2 := Lib.hid (hB1.keeps hE (fun h => h))
  have HE2 := Lib.hid (hE1.trans hE)
  clear hE hB1 hE1
  go_wp2_with fail
  refine (HI.out w2).mono ?_
  rintro e w3 ⟨rfl, hE⟩
  have hB3 := HB2.out.keeps hE (fun h => h)
  have HE3 := Lib.hid (HE2.out.trans hE)
  clear hE
  unfold NodeT.V
  go_wp2_with (refine wpList_fill (vs := n.cells) rfl rfl rfl rfl hB3 (by rw [HL.out]; rfl) (by rw [HL.out]; exact Tryz.szNode) n.one ?_; intro W8 hB8 hE8)
  refine bodyPost_ret (results_cell_tmp rfl rfl rfl (run_loadVar_api W8 _ n HN.out hB8)) rfl ?_
  exact ⟨rfl, HE3.out.trans' hE8 (fun x hx e => by have e : x = W.heap.size := e; omega)⟩
set_option maxRecDepth 100000 in
set_option maxHeartbeats 4000000 in
theorem fetch_big (W : World) (c s bm : Nat) (room : Int) (S : List Nd5) (fr : ByteArray) (v : Value) (ps : List Pl5) (lk : Int) (h : LeftAt W c s fr v ps lk) (hs : StoreAt W s bm room S) (x t : ByteArray) (q) (f : Nat) (n : NodeT) (hg : GoodW (InlD f) n) (ht : t = nodeB n)
    (hx : x.size ≤ 1000) (hq : cutN x = some q) (hh : hashB x q = some (shaB t)) (hH : HasS S t) :
    Calls Tryz.prog 93 #[.pointer (some ⟨c, 0, none⟩), .string x] W fun e w' => e = .returned (.tuple #[n.V, .bool true]) ∧ Ext W w' := by
  have q0 := h.cur.cell (i := 0) (v := .pointer (some ⟨s, 0, none⟩)) (by rfl)
  have HS := Lib.hid hs
  have HQ := Lib.hid hq
  have HH := Lib.hid hh
  have HT := Lib.hid ht
  have HG := Lib.hid hg
  have hn := (hg.one (inlP f)).refs
  have HN := Lib.hid hn
  have HL := Lib.hid (n.cells_len hn)
  obtain ⟨y, hy1, hy2⟩ := hH
  have hsg := fun w (h : StoreAt w s bm room S) => sget_c w s bm room S (shaB t) h
  have hy1 : atL S (shaB t).data.toList = some y := hy1
  rw [hy1] at hsg
  have hye : (some y).map (fun z : Nd5 => z.2.2.text) = some t := by rw [← hy2]; rfl
  simp only [hye] at hsg
  have HSG := Lib.hid hsg
  obtain ⟨k, hk⟩ : ∃ k, k = shaB t := ⟨_, rfl⟩
  rw [← hk] at HH HSG
  clear h hs hq hh ht hg hn hy1 hy2 hsg hye hk
  go_enter Tryz.func93, Tryz.ntmps93
  go_wp2_with (refine wpList_new Tryz.allocNode rfl rfl ?_; intro W1 hB1 hE1)
  refine (hash_c W1 x q (by omega) HQ.out).mono ?_
  rintro e w2 ⟨rfl, hE⟩
  rw [HH.out]
  unfold optV
  have HB2 := Lib.hid (hB1.keeps hE (fun h => h))
  have HE2 := Lib.hid (hE1.trans hE)
  have q0 := cell_ext q0 HE2.out
  clear hE hB1 hE1
  go_wp2_with fail
  refine (HSG.out w2 (HS.out.ext HE2.out)).mono ?_
  rintro e w3 ⟨rfl, hE⟩
  unfold optV
  have HB3 := Lib.hid (HB2.out.keeps hE (fun h => h))
  have HE3 := Lib.hid (HE2.out.trans hE)
  clear hE HB2
  go_wp2_with fail
  rw [HT.out]
  refine (get_c4 (inlP f) w3 n HG.out).mono ?_
  rintro e w4 ⟨rfl, hE⟩
  rw [← HT.out]
  have hB4r := HB3.out.keeps hE (fun h => h)
  have HE4 := Lib.hid (HE3.out.trans hE)
  clear hE HB3
  unfold NodeT.V
  go_wp2_with (first | (refine wpList_new Tryz.allocNode rfl rfl ?_; intro W5 hB5 hE5; refine wpList_fill (vs := n.cells) rfl rfl rfl rfl hB5 (by rw [HL.out]; rfl) (by rw [HL.out]; exact Tryz.szNode) n.one ?_; intro W6 hB6 hE6; have hB46 := (hB4r.keeps hE5 (fun h => h)).keeps hE6 (by have := hB4r.lt; omega)) | (refine wpList_load_known 76 (.tmp 9) rfl rfl _ _ rfl (run_load_api _ _ n HN.out hB6) ?_) | (refine wpList_fill (vs := n.cells) rfl rfl rfl rfl hB46 (by rw [HL.out]; rfl) (by rw [HL.out]; exact Tryz.szNode) n.one ?_; intro W8 hB8 hE8))
  refine bodyPost_ret (results_cell_tmp rfl rfl rfl (run_loadVar_api W8 _ n HN.out hB8)) rfl ?_
  have hX6 : Ext w4 W6 := hE5.trans' hE6 (fun x hx e => by have e : x = w4.heap.size := e; omega)
  exact ⟨rfl, (HE4.out.trans hX6).trans' hE8 (fun x hx e => by have e : x = W.heap.size := e; omega)⟩
theorem fetch_c (W : World) (c s bm : Nat) (room : Int) (S : List Nd5) (fr : ByteArray) (v : Value) (ps : List Pl5) (lk : Int) (h : LeftAt W c s fr v ps lk) (hs : StoreAt W s bm room S) {f : Nat} {T : PT} {n : NodeT} (hSt : Stands f T n) (hH : 32 ≤ T.text.size → HasS S T.text) :
    Calls Tryz.prog 93 #[.pointer (some ⟨c, 0, none⟩), .string (refB T.text)] W fun e w' => e = .returned (.tuple #[n.V, .bool true]) ∧ Ext W w' := by
  have hn := (hSt.good.one (inlP f)).refs
  by_cases hz : T.text.size < 32
  · have hI := hSt.may.2 hz
    obtain ⟨q, h1, h2⟩ := (inlP (f + 1)).nohash _ _ hI
    exact fetch_small W c _ q n hn (by rw [refB_small hz]; omega) h1 h2 ((inlP (f + 1)).inl _ _ hI)
  · obtain ⟨q, h1, h2⟩ := hash_text (shaB T.text) (shaB_size _)
    rw [refB_big hz]
    refine fetch_big W c s bm room S fr v ps lk h hs _ T.text q f n hSt.good hSt.text ?_ h1 h2 (hH (by omega))
    have := textB_size (shaB T.text)
    have := shaB_size T.text
    omega
/-! settle. -/
theorem own_take {w : World} {B : Nat} {T : TypeId} {sz g n cap m : Nat} {xs : List Value} (h : w.ownsRow B T sz (.slice (some ⟨g, 0, none⟩) n cap) n xs) (hm : m ≤ n) : w.ownsRow B T sz (.slice (some ⟨g, 0, none⟩) m cap) m (xs.take (m * sz)) := by
  obtain ⟨h1, ⟨h2, _⟩ | ⟨g', cap', cur, h2, h3, h4, h5, h6, h7, h8⟩⟩ := h
  · cases h2
  · have hms : m * sz ≤ n * sz := Nat.mul_le_mul_right _ hm
    obtain ⟨ha, _, hc⟩ := Value.slice.inj h2
    have hg : g = g' := by have := Option.some.inj ha; exact congrArg Addr.block this
    subst hg hc
    refine ⟨by rw [List.length_take, h1]; omega, .inr ⟨g, cap, cur, rfl, h3, h4, Nat.le_trans hm h5, h6, h7, ?_⟩⟩
    rw [← h8, List.take_take, Nat.min_eq_left hms]
theorem cells_take (ps : List Pl5) (t : Pl5) : (cellsL (ps ++ [t])).take (ps.length * 3) = cellsL ps := by
  rw [cellsL_append, ← cellsL_len]; exact List.take_left
theorem cells_last (ps : List Pl5) (t : Pl5) : (cellsL (ps ++ [t]))[ps.length * 3]? = some (.string t.path) ∧ (cellsL (ps ++ [t]))[ps.length * 3 + 1]? = some (.string t.value) ∧ (cellsL (ps ++ [t]))[ps.length * 3 + 2]? = some (.string t.ref) := by
  rw [cellsL_append, ← cellsL_len, cellsL_one]
  refine ⟨?_, ?_, ?_⟩
  · rw [List.getElem?_append_right (by omega), Nat.sub_self]; rfl
  · rw [List.getElem?_append_right (by omega), show (cellsL ps).length + 1 - (cellsL ps).length = 1 by omega]; rfl
  · rw [List.getElem?_append_right (by omega), show (cellsL ps).length + 2 - (cellsL ps).length = 2 by omega]; rfl
/-- The last place, in memory. -/
theorem LeftAt.last {W : World} {c s : Nat} {fr : ByteArray} {v : Value} {ps : List Pl5} {t : Pl5} {lk : Int} (h : LeftAt W c s fr v (ps ++ [t]) lk) :
    ∃ g cap, v = .slice (some ⟨g, 0, none⟩) (ps.length + 1) cap ∧ ps.length + 1 ≤ cap ∧ W.cell? ⟨g, ps.length * 3, none⟩ = some (.string t.path) ∧ W.cell? ⟨g, ps.length * 3 + 1, none⟩ = some (.string t.value) ∧ W.cell? ⟨g, ps.length * 3 + 2, none⟩ = some (.string t.ref) := by
  have hr := h.row
  obtain ⟨h1, ⟨h2, h3⟩ | ⟨g, cap, cur, h2, h3, h4, h5, h6, h7, h8⟩⟩ := h.row
  · simp at h3
  · rw [List.length_append] at h2 h5
    have h2 : v = .slice (some ⟨g, 0, none⟩) (ps.length + 1) cap := h2
    have h5 : ps.length + 1 ≤ cap := h5
    have hc : ∀ j u, (cellsL (ps ++ [t]))[j]? = some u → W.cell? ⟨g, j, none⟩ = some u := fun j u hj => by
      have := World.ownsRow.cells (g := g) hr (by rw [h2]; rfl) j u hj
      rwa [Addr.add_lit, Nat.zero_add] at this
    obtain ⟨c1, c2, c3⟩ := cells_last ps t
    exact ⟨g, cap, h2, h5, hc _ _ c1, hc _ _ c2, hc _ _ c3⟩
structure CurI (Hs : ByteArray → Prop) (c s : Nat) (fr : ByteArray) (R : List Pair) (W : World) (v : Value) (ts : List Pl5) (N k : Nat) : Prop where
  left : LeftAt W c s fr v ts.reverse (k : Int)
  stk : StackD Hs fr ts R N
  look : k + N ≤ 400
  len : ts.length ≤ 17 * k
def SetPost (Hs : ByteArray → Prop) (c s : Nat) (fr : ByteArray) (R : List Pair) (W : World) (v : Value) (e : Ending) (w' : World) : Prop :=
  ∃ (v' : Value) (ts : List Pl5) (N k : Nat), LeftTo c s fr W v w' v' ts.reverse (k : Int) ∧ CurI Hs c s fr R w' v' ts N k ∧
    ((R = [] ∧ ts = [] ∧ e = .returned (.bool false)) ∨ (∃ t r R', ts = t :: r ∧ R = (t.path, t.value) :: R' ∧ t.value.size ≠ 0 ∧ keyOk t.path = true ∧ t.path.size ≤ 12 ∧ StackD Hs fr r R' N ∧ e = .returned (.bool true)))
theorem LeftAt.types {W : World} {c s : Nat} {fr : ByteArray} {v : Value} {ps : List Pl5} {lk : Int} (h : LeftAt W c s fr v ps lk) {b : Nat} (hb : b = c ∨ v.ownBlock = some b) : ∃ cur T, Blk W b (.cells cur T) ∧ (T = 84 ∨ T = 121) := by
  rcases hb with rfl | hb
  · exact ⟨_, _, h.cur, .inl rfl⟩
  · obtain ⟨h1, h2 | ⟨g, cap, cur, h2, h3, h4, h5⟩⟩ := h.row
    · rw [h2.1] at hb; cases hb
    · rw [h2] at hb
      have e : some g = some b := hb
      obtain rfl := Option.some.inj e
      exact ⟨cur, _, h4, .inr rfl⟩
theorem StoreAt.cur {W W' : World} {s bm c : Nat} {room : Int} {S : List Nd5} {fr : ByteArray} {v : Value} {ps : List Pl5} {lk : Int} (h : StoreAt W s bm room S) (hl : LeftAt W c s fr v ps lk) (k : Keeps (fun b => b = c ∨ v.ownBlock = some b) W W') : StoreAt W' s bm room S := by
  have hno : ∀ (b : Nat) (cur : Array Value) (T : TypeId) (fz : Nat × Nat), (b = c ∨ v.ownBlock = some b) → Blk W b (.cells cur T fz) → T = 84 ∨ T = 121 := fun b cur T fz hb hB => by
    obtain ⟨cur', T', hB', hT⟩ := hl.types hb
    have := hB.uniq hB'
    injection this with _ e _
    rw [e]; exact hT
  refine ⟨h.st.keeps k fun hb => ?_, h.mp.keeps k (fun hb => ?_) (fun x hx hb => ?_) fun b cur fz hb hB => ?_⟩
  · have := hno _ _ _ _ hb h.st
    revert this; decide
  · obtain ⟨es, ck, h1, _⟩ := h.mp.mp
    obtain ⟨cur', T', hB', _⟩ := hl.types hb
    have := h1.uniq hB'; cases this
  · obtain ⟨rv, h1, _⟩ := (h.mp.items x hx).cells
    have := hno _ _ _ _ hb h1
    revert this; decide
  · have := hno _ _ _ _ hb hB
    revert this; decide
theorem LeftAt.cutRow {W : World} {c s : Nat} {fr : ByteArray} {ps : List Pl5} {t : Pl5} {lk : Int} {g cap : Nat} (h : LeftAt W c s fr (.slice (some ⟨g, 0, none⟩) (ps.length + 1) cap) (ps ++ [t]) lk) : W.ownsRow 0 121 3 (.slice (some ⟨g, 0, none⟩) ps.length cap) ps.length (cellsL ps) ∧ g ≠ c := by
  have hr := h.row
  rw [List.length_append] at hr
  have := own_take (m := ps.length) hr (Nat.le_add_right _ _)
  rw [cells_take] at this
  exact ⟨this, fun e => h.ne (by rw [← e]; rfl)⟩
/-- The last place goes; so many have been looked at. -/
theorem LeftAt.pop {W : World} {c s : Nat} {fr : ByteArray} {ps : List Pl5} {t : Pl5} {lk : Int} {g cap : Nat} (h : LeftAt W c s fr (.slice (some ⟨g, 0, none⟩) (ps.length + 1) cap) (ps ++ [t]) lk) (k' : Int) :
    LeftTo c s fr W (.slice (some ⟨g, 0, none⟩) (ps.length + 1) cap) ((W.setCell ⟨c, 3, none⟩ (.int .i64 k')).setCell ⟨c, 2, none⟩ (.slice (some ⟨g, 0, none⟩) ps.length cap)) (.slice (some ⟨g, 0, none⟩) ps.length cap) ps k' := by
  obtain ⟨h1, h2⟩ := h.cutRow
  have k1 := Keeps.oneSet W ⟨c, 3, none⟩ (.int .i64 k')
  have k2 := Keeps.oneSet (W.setCell ⟨c, 3, none⟩ (.int .i64 k')) ⟨c, 2, none⟩ (.slice (some ⟨g, 0, none⟩) ps.length cap)
  have hg : ∀ b : Nat, (Value.slice (some ⟨g, 0, none⟩) ps.length cap).ownBlock = some b → ¬ b = c := fun b hb e => by
    have e1 : some g = some b := hb
    exact h2 ((Option.some.inj e1).trans e)
  refine ⟨⟨(h.cur.set_same _).set_same _, own_keeps (own_keeps h1 k1 hg) k2 hg, fun e => hg c e rfl⟩, ?_, .inl rfl⟩
  exact (k1.mono (fun _ _ g => .inl g)).trans' k2 (fun _ _ g => .inl g)
theorem LeftAt.cut {W : World} {c s : Nat} {fr : ByteArray} {ps : List Pl5} {t : Pl5} {lk : Int} {g cap : Nat} (h : LeftAt W c s fr (.slice (some ⟨g, 0, none⟩) (ps.length + 1) cap) (ps ++ [t]) lk) :
    LeftTo c s fr W (.slice (some ⟨g, 0, none⟩) (ps.length + 1) cap) (W.setCell ⟨c, 2, none⟩ (.slice (some ⟨g, 0, none⟩) ps.length cap)) (.slice (some ⟨g, 0, none⟩) ps.length cap) ps lk := by
  obtain ⟨h1, h2⟩ := h.cutRow
  have k2 := Keeps.oneSet W ⟨c, 2, none⟩ (.slice (some ⟨g, 0, none⟩) ps.length cap)
  have hg : ∀ b : Nat, (Value.slice (some ⟨g, 0, none⟩) ps.length cap).ownBlock = some b → ¬ b = c := fun b hb e => by
    have e1 : some g = some b := hb
    exact h2 ((Option.some.inj e1).trans e)
  exact ⟨⟨h.cur.set_same _, own_keeps h1 k2 hg, fun e => hg c e rfl⟩, k2.mono (fun _ _ g => .inl g), .inl rfl⟩
def lkOf (c : Nat) (W : World) : Nat := match W.cell? ⟨c, 3, none⟩ with | some (.int _ n) => n.toNat | _ => 0
theorem lkOf_left {W : World} {c s : Nat} {fr : ByteArray} {v : Value} {ps : List Pl5} {k : Nat} (h : LeftAt W c s fr v ps (k : Int)) : lkOf c W = k := by
  unfold lkOf
  rw [h.cur.cell (i := 3) (v := .int .i64 k) (by rfl)]
  simp
def StRel (Hs : ByteArray → Prop) (c s : Nat) (fr : ByteArray) (R : List Pair) (W : World) (v : Value) (bv : Value) (wr : World) : Prop := bv = .bool false ∧ ∃ (v' : Value) (ts : List Pl5) (N k : Nat), LeftTo c s fr W v wr v' ts.reverse (k : Int) ∧ CurI Hs c s fr R wr v' ts N k
theorem cnt_pos (f : Nat) (l : List Pair) : 1 ≤ cntT f l := by cases f <;> simp [cntT]
set_option maxRecDepth 100000 in
set_option maxHeartbeats 8000000 in
theorem settle_c (W : World) (c s bm : Nat) (room : Int) (S : List Nd5) (fr : ByteArray) (R : List Pair) (v : Value) (ts : List Pl5) (N k : Nat) (hf : fr.size ≤ 1000000) (hI : CurI (HasS S) c s fr R W v ts N k) (hs : StoreAt W s bm room S) :
    Calls Tryz.prog 63 #[.pointer (some ⟨c, 0, none⟩)] W (SetPost (HasS S) c s fr R W v) := by
  have HI := Lib.hid hI
  have HS := Lib.hid hs
  clear hI hs
  go_enter Tryz.func63, Tryz.ntmps63
  go_wp2_with fail
  go_loopw [2] (fun bv wr => StRel (HasS S) c s fr R W v bv wr) (fun _ wr => 400 - lkOf c wr)
  case atStart => exact ⟨rfl, v, ts, N, k, LeftTo.refl HI.out.left, HI.out⟩
  case round =>
    obtain ⟨rfl, v', ts', N', k', hT, hI⟩ := hrel
    have HT := Lib.hid hT
    have HI' := Lib.hid hI
    have HS' := Lib.hid (HS.out.cur HI.out.left hT.kp)
    cases ts' with
    | nil =>
      have q2 := hI.left.cur.cell (i := 2) (v := v') (by rfl)
      have hR : R = [] := hI.stk.1
      obtain ⟨ad, cp, hv⟩ := row_slice hI.left.row
      have hv : v' = .slice ad 0 cp := hv
      subst hv
      clear hT hI
      go_wp2_with fail
      go_ret
      exact ⟨_, _, N', k', HT.out, HI'.out, .inl ⟨hR, rfl, rfl⟩⟩
    | cons t r =>
      have hl := hI.left
      rw [List.reverse_cons] at hl
      obtain ⟨g, cap, hv, hcap, p1, p2, p3⟩ := hl.last
      have hlen := hI.len
      obtain ⟨m, hm⟩ : ∃ m, m = r.length := ⟨_, rfl⟩
      rw [List.length_reverse, ← hm] at hv hcap p1 p2 p3
      rw [List.length_cons, ← hm] at hlen
      obtain ⟨tp, htp⟩ : ∃ x, x = t.path := ⟨_, rfl⟩
      obtain ⟨tv, htv⟩ : ∃ x, x = t.value := ⟨_, rfl⟩
      obtain ⟨tr, htr⟩ : ∃ x, x = t.ref := ⟨_, rfl⟩
      rw [← htp] at p1
      rw [← htv] at p2
      rw [← htr] at p3
      subst hv
      have q2 := hl.cur.cell (i := 2) (v := .slice (some ⟨g, 0, none⟩) (m + 1) cap) (by rfl)
      have q3 := hl.cur.cell (i := 3) (v := .int .i64 (k' : Int)) (by rfl)
      have f2 : wr.frozen? ⟨c, 2, none⟩ = false := hl.cur.frozen
      have f3 : wr.frozen? ⟨c, 3, none⟩ = false := hl.cur.frozen
      have HL := Lib.hid hl
      have HM := Lib.hid hm
      have hlk := hI.look
      obtain ⟨R1, R2, N1, N2, hR, hN, hD, hSt⟩ := hI.stk
      have hk4 : k' ≤ 400 := by omega
      have HLK := Lib.hid hlk
      have HRR := Lib.hid hR
      have HNN := Lib.hid hN
      have HSK := Lib.hid hSt
      have HLEN := Lib.hid hlen
      have i1 : ((m + 1 : Nat) : Int) - 1 = (m : Int) := by omega
      have i2 : (0 : Int) < ((m + 1 : Nat) : Int) := by omega
      have i3 : (m : Int) < ((m + 1 : Nat) : Int) := by omega
      have i4 : (m : Int).toNat = m := by omega
      have i5 : (m : Int) ≤ (cap : Int) := by omega
      have i6 : (m : Int) ≤ 10000 := by omega
      have HTP := Lib.hid htp
      have HTV := Lib.hid htv
      have HTR := Lib.hid htr
      have HD := Lib.hid hD
      clear hT hI hl hlk hlen hm hR hN hSt htp htv htr hD
      rcases HD.out with ⟨d1, d2, d3, d4, d5, d6⟩ | ⟨d1, f, l, d2, d3, d4, d5⟩
      · have hne : tv.toList.isEmpty = false := by
          rw [Bool.eq_false_iff]
          intro e
          rw [List.isEmpty_iff] at e
          have h1 : tv.toList.length = tv.size := by rw [ByteArray.toList_eq]; rfl
          rw [e] at h1
          exact d1 (by rw [← HTV.out, ← h1]; rfl)
        have HF := Lib.hid (And.intro d1 (And.intro d2 (And.intro d3 (And.intro d5 d6))))
        clear d1 d2 d3 d4 d5 d6
        go_wp2_with fail
        go_ret
        obtain ⟨d1, d2, d3, d5, d6⟩ := HF.out
        have hX : Ext wr (wr.alloc (.cells #[.string tp, .string tv, .string tr] 121)) := (ExtR wr).alloc _
        refine ⟨_, t :: r, N', k', HT.out.ext hX, ⟨HI'.out.left.ext hX, HI'.out.stk, HI'.out.look, HI'.out.len⟩, .inr ⟨t, r, R2, rfl, ?_, d1, d2, d3, ?_, rfl⟩⟩
        · rw [HRR.out, d5]; rfl
        · have : N' = N2 := by rw [HNN.out, d6, Nat.zero_add]
          rw [this]; exact HSK.out
      · have hcp := cnt_pos f l
        have hk3 : ¬ (400 : Int) ≤ (k' : Int) := by have := HLK.out; have := HNN.out; omega
        have hk5 : (k' : Int) < 400 := by omega
        have hgood := good f l d2.rows
        obtain ⟨n, hn⟩ : ∃ n, n = nodeF (buildT f) l := ⟨_, rfl⟩
        have hst := hgood.2.1 d2.ne
        rw [← hn] at hst
        have hrefs := (hst.good.one (inlP f)).refs
        have hkind := (hst.good.one (inlP f)).kind
        have hpath := (hst.good.one (inlP f)).path
        have hftc : ∀ w, Ext wr w → Calls Tryz.prog 93 #[.pointer (some ⟨c, 0, none⟩), .string tr] w fun e w' => e = .returned (.tuple #[n.V, .bool true]) ∧ Ext w w' := fun w hw => by
          rw [HTR.out, d3]
          exact fetch_c w c s bm room S fr _ _ _ (HL.out.ext hw) (HS'.out.ext hw) hst (fun h32 => d2.has _ (text_mem _) h32)
        have HFT := Lib.hid hftc
        have HST := Lib.hid hst
        have HN := Lib.hid hn
        have HRF := Lib.hid hrefs
        have HKD := Lib.hid hkind
        have HPT := Lib.hid hpath
        have HCL := Lib.hid (n.cells_len hrefs)
        have HDD := Lib.hid (And.intro d2 (And.intro d4 d5))
        have hne : tv = ⟨#[]⟩ := by rw [HTV.out, d1]
        clear d1 d2 d3 d4 d5 hcp hgood hst hrefs hkind hpath hftc hn
        rw [hne] at p2
        clear hne
        have q3a : (wr.alloc (.cells #[.string tp, .string ⟨#[]⟩, .string tr] 121)).cell? ⟨c, 3, none⟩ = some (.int .i64 (k' : Int)) := cell_ext q3 ((ExtR wr).alloc _)
        go_wp2_with fail
        refine (HFT.out _ ((ExtR wr).alloc _)).mono ?_
        rintro e w1 ⟨rfl, hE⟩
        have hX1 : Ext wr w1 := ((ExtR wr).alloc _).trans hE
        have hP1 : Blk w1 wr.heap.size (.cells #[.string tp, .string ⟨#[]⟩, .string tr] 121) := (Blk.new wr _).keeps hE (fun h => h)
        have hcw := (cell_ext q2 hX1)
        have hclt : c < wr.heap.size := HL.out.cur.lt
        have hcne : w1.heap.size ≠ c := by have := hX1.size; omega
        have hpne : wr.heap.size ≠ c := by omega
        have HX1 := Lib.hid hX1
        have HP1 := Lib.hid hP1
        have HCN := Lib.hid (And.intro hcne hpne)
        clear hE hX1 hP1 hcw hclt hcne hpne q2 q3 q3a f2 f3 p1 p2 p3
        unfold NodeT.V
        go_wp2_with (first | (refine wpList_new Tryz.allocNode rfl rfl ?_; intro W5 hB5 hE5; refine wpList_fill (vs := n.cells) rfl rfl rfl rfl hB5 (by rw [HCL.out]; rfl) (by rw [HCL.out]; exact Tryz.szNode) n.one ?_; intro W6 hB6 hE6; have hX6 : Ext wr W6 := HX1.out.trans (hE5.trans' hE6 (fun x hx e => by have e : x = w1.heap.size := e; omega)); have q2 := (HL.out.ext hX6).cur.cell (i := 2) (v := .slice (some ⟨g, 0, none⟩) (m + 1) cap) (by rfl); have q3 := (HL.out.ext hX6).cur.cell (i := 3) (v := .int .i64 (k' : Int)) (by rfl); have f3 : W6.frozen? ⟨c, 3, none⟩ = false := (HL.out.ext hX6).cur.frozen; have hB6w := (hB6.set_other (p := ⟨c, 3, none⟩) HCN.out.1 (.int .i64 ((k' : Int) + 1))).set_other (p := ⟨c, 2, none⟩) HCN.out.1 (.slice (some ⟨g, 0, none⟩) m cap); have hc3 := (HL.out.ext hX6).cur.set_same (i := 3) (.int .i64 ((k' : Int) + 1)); have q2b := hc3.cell (i := 2) (v := .slice (some ⟨g, 0, none⟩) (m + 1) cap) (by rfl); have f2b : (W6.setCell ⟨c, 3, none⟩ (.int .i64 ((k' : Int) + 1))).frozen? ⟨c, 2, none⟩ = false := hc3.frozen; have hP6 := ((((HP1.out.keeps hE5 (fun h => h)).keeps hE6 (fun e => by have := HP1.out.lt; have e : wr.heap.size = w1.heap.size := e; omega)).set_other (p := ⟨c, 3, none⟩) HCN.out.2 (.int .i64 ((k' : Int) + 1))).set_other (p := ⟨c, 2, none⟩) HCN.out.2 (.slice (some ⟨g, 0, none⟩) m cap)).cell (i := 0) (v := .string tp) (by rfl); have HX6 := Lib.hid hX6; clear hB6 hc3 hX6 hE5 hE6 hB5) | (refine wpList_load_known 76 (.tmp 5) rfl rfl _ _ rfl (run_load_api _ _ n HRF.out hB6w) ?_))
        have hmr : m = r.reverse.length := by rw [List.length_reverse]; exact HM.out
        have hL6 := HL.out.ext HX6.out
        rw [hmr] at hL6
        have hpop := hL6.pop ((k' : Int) + 1)
        rw [← hmr] at hpop
        have hcast : ((k' : Int) + 1) = ((k' + 1 : Nat) : Int) := by omega
        have HPOP := Lib.hid (LeftTo.ahead HX6.out hpop)
        clear hpop hL6 hB6w q2b f2b hP6 q2 q3 f3
        obtain ⟨hd2, hd4, hd5⟩ := HDD.out
        have hpsz : tp.size ≤ 100000 := by
          obtain ⟨q, hq⟩ := List.exists_mem_of_ne_nil _ hd2.ne
          have := (hd2.key q hq).2
          rw [ByteArray.size_append] at this
          rw [HTP.out]; omega
        refine (lay_c _ c s fr (.slice (some ⟨g, 0, none⟩) m cap) r.reverse ((k' : Int) + 1) HPOP.out.at' (by rw [← hmr]; omega) hf n HKD.out HRF.out tp (by have := HPT.out; omega)).mono ?_
        rintro e w9 ⟨rfl, v9, hT9⟩
        have HT9 := Lib.hid (HT.out.trans (HPOP.out.trans hT9))
        clear hT9
        go_wp2_with fail
        obtain ⟨Nl, hl1, hl2⟩ := lay_den (Hs := HasS S) fr hd2
        rw [← HN.out, ← HTP.out] at hl2
        have hres := HT9.out
        rw [hcast] at hres
        have hrev : r.reverse ++ layP fr n tp = ((layP fr n tp).reverse ++ r).reverse := by simp
        rw [hrev] at hres
        go_roundw
        case rel =>
          refine ⟨rfl, v9, (layP fr n tp).reverse ++ r, Nl + N2, k' + 1, hres, hres.at', ?_, ?_, ?_⟩
          · rw [HRR.out, hd4, ← HTP.out]; exact hl2.app HSK.out
          · have h1 := HLK.out; have h2 := HNN.out; omega
          · have h1 := lay_len fr n tp; have h2 := HLEN.out; have h3 := HM.out
            rw [List.length_append, List.length_reverse]; omega
        case measure =>
          have h1 := lkOf_left hres.at'
          have h2 := lkOf_left HI'.out.left
          rw [h1, h2]
          have := HLK.out; have := HNN.out
          omega
end
end Go.Proofs.YtneojlgbcaejmaaGreatDoor
/- Pairs of texts: whether they are alike. -/
namespace Go.Proofs.YtneojlgbcaejmaaGreatDoor
section
open Go Go.RowKit
set_option linter.unusedSimpArgs false
set_option linter.unusedVariables false
theorem eqStr (d : Nat) (a b : ByteArray) (w : World) : (Op.equalIn (d + 1) 9 (.string a) (.string b)).run Tryz.prog w = .ok (a == b) w := by
  simp [Op.equalIn, Sem.run_bind, run_underlying Tryz.uStr, Result.andThen, Sem.run_pure]
def fieldsB (d : Option TypeDesc) (l : List (Bool × TypeId × Nat)) : Bool := match d with | some (.struct fs) => fs.toList.map (fun f => (f.name == "_", f.type, f.offset)) == l | _ => false
theorem fields2 {d : Option TypeDesc} (h : fieldsB d [(false, 9, 0), (false, 9, 1)] = true) : ∃ f g : Field, d = some (.struct #[f, g]) ∧ f.name ≠ "_" ∧ f.type = 9 ∧ f.offset = 0 ∧ g.name ≠ "_" ∧ g.type = 9 ∧ g.offset = 1 := by
  cases d with
  | none => cases h
  | some d =>
    cases d <;> try (cases h; done)
    rename_i fs
    obtain ⟨l⟩ := fs
    rcases l with _ | ⟨f, _ | ⟨g, _ | ⟨e, r⟩⟩⟩ <;> simp [fieldsB] at h
    obtain ⟨⟨h1, h2, h3⟩, h4, h5, h6⟩ := h
    exact ⟨f, g, rfl, h1, h2, h3, h4, h5, h6⟩
theorem Tryz.entFields : fieldsB (Tryz.prog.underlying 45) [(false, 9, 0), (false, 9, 1)] = true := by kernel_rfl
theorem Tryz.entHeld : Tryz.prog.stoodInHeld 45 = false := by kernel_rfl
set_option maxRecDepth 100000 in
theorem neq_pair (x y x' y' : ByteArray) (w : World) : (binOp .neq 45 (.agg #[.string x, .string y]) (.agg #[.string x', .string y'])).run Tryz.prog w = .ok (.bool (!(x == x' && y == y'))) w := by
  obtain ⟨f, g, h0, h1, h2, h3, h4, h5, h6⟩ := fields2 Tryz.entFields
  have hp1 : ∀ (u v : Value) w, (part 9 #[u, v] 0).run Tryz.prog w = .ok u w := fun u v w => by
    simp [part, Sem.run_bind, Tryz.strAgg, Result.andThen, Sem.run_pure]
  have hp2 : ∀ (u v : Value) w, (part 9 #[u, v] 1).run Tryz.prog w = .ok v w := fun u v w => by
    simp [part, Sem.run_bind, Tryz.strAgg, Result.andThen, Sem.run_pure]
  have he : ∀ d, (Op.equalIn (d + 2) 45 (.agg #[.string x, .string y]) (.agg #[.string x', .string y'])).run Tryz.prog w = .ok (x == x' && y == y') w := fun d => by
    rw [Op.equalIn]
    simp only [Sem.run_bind, run_underlying h0, Result.andThen]
    simp [Sem.run_bind, Result.andThen, Sem.run, Tryz.entHeld, h1, h2, h3, h4, h5, h6, hp1, hp2, eqStr]
    cases (x == x') with
    | false => simp [Sem.run_pure]
    | true =>
      simp [Sem.run_bind, Result.andThen, Sem.run, Tryz.entHeld, h1, h2, h3, h4, h5, h6, hp1, hp2, eqStr]
      cases (y == y') <;> simp [Sem.run_pure]
  have he' : (Op.equal 45 (.agg #[.string x, .string y]) (.agg #[.string x', .string y'])).run Tryz.prog w = .ok (x == x' && y == y') w := he 9998
  simp only [binOp, Sem.run_bind, he', Result.andThen, Sem.run_pure]
theorem Tryz.isEntry : isStruct (Tryz.prog.underlying 45) = true := by kernel_rfl
theorem Tryz.szEntry : (Tryz.prog.info? 45).map (·.size) = some 2 := by kernel_rfl
set_option maxRecDepth 100000 in
theorem load_pair {w : World} {b o : Nat} {x y : ByteArray} (h1 : w.cell? ⟨b, o, none⟩ = some (.string x)) (h2 : w.cell? ⟨b, o + 1, none⟩ = some (.string y)) : (Instr.loadAt 45 (.pointer (some ⟨b, o, none⟩))).run Tryz.prog w = .ok (.agg #[.string x, .string y]) w := by
  obtain ⟨fs, hu⟩ := und_struct Tryz.isEntry
  refine run_load_agg (xs := [.string x, .string y]) hu Tryz.szEntry (fun j v hv => ?_)
  rw [Addr.add_lit]
  match j, hv with
  | 0, hv => simp at hv; subst hv; exact h1
  | 1, hv => simp at hv; subst hv; exact h2
  | j + 2, hv => simp at hv
def eqP (p q : Pair) : Bool := p.1 == q.1 && p.2 == q.2
theorem eqP_iff (p q : Pair) : eqP p q = true ↔ p = q := by
  unfold eqP
  rw [ba_beq, ba_beq]
  simp only [Bool.and_eq_true, decide_eq_true_eq]
  constructor
  · rintro ⟨h1, h2⟩
    obtain ⟨a, b⟩ := p
    obtain ⟨c, d⟩ := q
    exact Prod.ext h1 h2
  · rintro rfl; exact ⟨rfl, rfl⟩
/-- Are they alike? -/
def sameL : List Pair → List Pair → Bool
  | [], [] => true
  | p :: l, q :: m => eqP p q && sameL l m
  | _, _ => false
theorem sameL_iff : ∀ (l m : List Pair), sameL l m = true ↔ l = m
  | [], [] => by simp [sameL]
  | p :: l, [] => by simp [sameL]
  | [], q :: m => by simp [sameL]
  | p :: l, q :: m => by
    unfold sameL
    rw [Bool.and_eq_true, eqP_iff, sameL_iff l m]; simp
end
end Go.Proofs.YtneojlgbcaejmaaGreatDoor
/- cursor: cut, next, Next, Peek. -/
namespace Go.Proofs.YtneojlgbcaejmaaGreatDoor
section
open Go Go.RowKit
set_option linter.unusedSimpArgs false
set_option linter.unusedVariables false
attribute [local go_sem] Oper.semAt_some
set_option maxRecDepth 100000 in
set_option maxHeartbeats 4000000 in
theorem curcut_c (W : World) (c s : Nat) (fr : ByteArray) (v : Value) (ps : List Pl5) (t : Pl5) (lk : Int) (h : LeftAt W c s fr v (ps ++ [t]) lk) (hps : ps.length ≤ 100000) :
    Calls Tryz.prog 45 #[.pointer (some ⟨c, 0, none⟩)] W (LeftPost c s fr W v ps lk) := by
  obtain ⟨g, cap, hv, hcap, _⟩ := h.last
  obtain ⟨m, hm⟩ : ∃ m, m = ps.length := ⟨_, rfl⟩
  rw [← hm] at hv hcap hps
  subst hv
  have q2 := h.cur.cell (i := 2) (v := .slice (some ⟨g, 0, none⟩) (m + 1) cap) (by rfl)
  have H := Lib.hid h
  have HM := Lib.hid hm
  have Q2 := Lib.hid q2
  have i1 : ((m + 1 : Nat) : Int) - 1 = (m : Int) := by omega
  have i3 : (m : Int) ≤ ((m + 1 : Nat) : Int) := by omega
  have i4 : (m : Int).toNat = m := by omega
  have i5 : (m : Int) ≤ (cap : Int) := by omega
  have i6 : (m : Int) ≤ 100000 := by omega
  have i7 : (0 : Int) ≤ (m : Int) := by omega
  have i8 : wrap64 ((m : Int)) = (m : Int) := by unfold wrap64; omega
  clear h hm
  go_enter Tryz.func45, Tryz.ntmps45
  go_wp2_with fail
  refine wp_region_mix [0,1,2,3,4,5,6,7,8,9,10,11,12,13,14] [14] Ext ExtR ExtT (by kernel_rfl) (by kernel_rfl) (by kernel_rfl) ?_
  iterate 2 (refine mix_pure _ rfl (by kernel_rfl) rfl rfl (fun K hK => ?_); go_big_quiet_op; refine hK _ ?_; clear hK K)
  refine mix_any _ (.pointer (some ⟨c, 0, none⟩)) rfl (by kernel_rfl) rfl (fun w1 => by kernel_rfl) ?_
  simp only [Act.put, List.setIfInBounds_toArray, List.set_cons_zero, List.set_cons_succ]
  iterate 1 (refine mix_pure _ rfl (by kernel_rfl) rfl rfl (fun K hK => ?_); go_big_quiet_op; refine hK _ ?_; clear hK K)
  refine mix_load ⟨c, 2, none⟩ _ rfl (by kernel_rfl) rfl rfl (fun w1 h1 => run_load_plain Tryz.uPls rfl (cell_ext Q2.out ((drewE _).trans h1))) ?_
  simp only [Act.put, List.setIfInBounds_toArray, List.set_cons_zero, List.set_cons_succ]
  iterate 1 (refine mix_pure _ rfl (by kernel_rfl) rfl rfl (fun K hK => ?_); go_big_quiet_op; refine hK _ ?_; clear hK K)
  refine mix_any _ (.pointer (some ⟨c, 0, none⟩)) rfl (by kernel_rfl) rfl (fun w1 => by kernel_rfl) ?_
  simp only [Act.put, List.setIfInBounds_toArray, List.set_cons_zero, List.set_cons_succ]
  iterate 1 (refine mix_pure _ rfl (by kernel_rfl) rfl rfl (fun K hK => ?_); go_big_quiet_op; refine hK _ ?_; clear hK K)
  refine mix_load ⟨c, 2, none⟩ _ rfl (by kernel_rfl) rfl rfl (fun w1 h1 => run_load_plain Tryz.uPls rfl (cell_ext Q2.out ((drewE _).trans h1))) ?_
  simp only [Act.put, List.setIfInBounds_toArray, List.set_cons_zero, List.set_cons_succ]
  iterate 3 (refine mix_pure _ rfl (by kernel_rfl) rfl rfl (fun K hK => ?_); go_big_quiet_op; refine hK _ ?_; clear hK K)
  refine mix_any _ (.pointer (some ⟨c, 0, none⟩)) rfl (by kernel_rfl) rfl (fun w1 => by kernel_rfl) ?_
  simp only [Act.put, List.setIfInBounds_toArray, List.set_cons_zero, List.set_cons_succ]
  iterate 1 (refine mix_pure _ rfl (by kernel_rfl) rfl rfl (fun K hK => ?_); go_big_quiet_op; refine hK _ ?_; clear hK K)
  refine mix_hard _ rfl (by kernel_rfl) rfl (fun w4 he K hK => ?_)
  have h4 := H.out.ext ((drewE _).trans he)
  have q1 : w4.cell? ⟨c, 2, none⟩ = some (.slice (some ⟨g, 0, none⟩) (m + 1) cap) := h4.cur.cell (i := 2) (by rfl)
  have f1 : w4.frozen? ⟨c, 2, none⟩ = false := h4.cur.frozen
  have HX4 := Lib.hid (show Ext W w4 from (drewE _).trans he)
  rw [HM.out] at h4
  have hcut := h4.cut
  rw [← HM.out] at hcut
  have HCUT := Lib.hid (LeftTo.ahead HX4.out hcut)
  clear he h4 hcut
  go_simp
  refine hK _ _ ?_
  clear hK K q1 f1
  refine mix_end (by kernel_rfl) (fun w5 he => ?_)
  have HF := Lib.hid (HCUT.out.ext he)
  clear he
  refine bodyPost_end (results_none rfl _ _ _) rfl ?_
  exact ⟨rfl, _, HF.out⟩
theorem LeftAt.keeps {W W' : World} {c s : Nat} {fr : ByteArray} {v : Value} {ps : List Pl5} {lk : Int} {F : BSet} (h : LeftAt W c s fr v ps lk) (k : Keeps F W W') (h1 : ¬ F c) (h2 : ∀ b, v.ownBlock = some b → ¬ F b) : LeftAt W' c s fr v ps lk := ⟨h.cur.keeps k h1, own_keeps h.row k h2, h.ne⟩
theorem LeftTo.other {c s : Nat} {fr : ByteArray} {W W' W'' : World} {v v' : Value} {ps : List Pl5} {lk : Int} {F : BSet} (h : LeftTo c s fr W v W' v' ps lk) (k : Keeps F W' W'') (hF : ∀ x, F x → W.heap.size ≤ x ∧ x ≠ c ∧ v'.ownBlock ≠ some x) : LeftTo c s fr W v W'' v' ps lk :=
  ⟨h.at'.keeps k (fun e => (hF c e).2.1 rfl) (fun b hb e => (hF b e).2.2 hb), h.kp.trans' k (fun x hx e => by have := (hF x e).1; omega), h.new⟩
theorem run_loadVar_ent {w : World} {b : Nat} {x y : ByteArray} (hB : Blk w b (.cells #[.string x, .string y] 45)) : (loadVar 45 ⟨b, 0, none⟩).run Tryz.prog w = .ok (.agg #[.string x, .string y]) w := by
  have := load_pair (b := b) (o := 0) (hB.cell (i := 0) (by rfl)) (hB.cell (i := 1) (by rfl))
  simpa [Instr.loadAt, Instr.sureAddr, Sem.run_bind, Result.andThen] using this
/-! The next entry; it stays there. -/
def nextV : List Pair → Value
  | [] => .tuple #[.agg #[.string ⟨#[]⟩, .string ⟨#[]⟩], .bool false]
  | q :: _ => .tuple #[.agg #[.string (pairsB q.1), .string q.2], .bool true]
def NextP (Hs : ByteArray → Prop) (c s : Nat) (fr : ByteArray) (R : List Pair) (W : World) (v : Value) (e : Ending) (w' : World) : Prop :=
  ∃ (v' : Value) (ts : List Pl5) (N k : Nat), LeftTo c s fr W v w' v' ts.reverse (k : Int) ∧ CurI Hs c s fr R w' v' ts N k ∧ e = .returned (nextV R) ∧
    ((R = [] ∧ ts = []) ∨ (∃ t r R', ts = t :: r ∧ R = (t.path, t.value) :: R' ∧ keyOk t.path = true ∧ StackD Hs fr r R' N))
theorem Tryz.isPl : isStruct (Tryz.prog.underlying 121) = true := by kernel_rfl
theorem Tryz.szPl : (Tryz.prog.info? 121).map (·.size) = some 3 := by kernel_rfl
theorem Tryz.allocPl : ∀ w, (Instr.alloc 121 true (.tuple #[])).run Tryz.prog w = .ok (.pointer (some ⟨w.heap.size, 0, none⟩)) (w.alloc (.cells [Value.string ⟨#[]⟩, .string ⟨#[]⟩, .string ⟨#[]⟩].toArray 121)) := fun w => by kernel_rfl
set_option maxRecDepth 100000 in
theorem load_pl {w : World} {b o : Nat} {x y z : ByteArray} (h1 : w.cell? ⟨b, o, none⟩ = some (.string x)) (h2 : w.cell? ⟨b, o + 1, none⟩ = some (.string y)) (h3 : w.cell? ⟨b, o + 2, none⟩ = some (.string z)) : (Instr.loadAt 121 (.pointer (some ⟨b, o, none⟩))).run Tryz.prog w = .ok (.agg #[.string x, .string y, .string z]) w := by
  obtain ⟨fs, hu⟩ := und_struct Tryz.isPl
  refine run_load_agg (xs := [.string x, .string y, .string z]) hu Tryz.szPl (fun j v hv => ?_)
  rw [Addr.add_lit]
  match j, hv with
  | 0, hv => simp at hv; subst hv; exact h1
  | 1, hv => simp at hv; subst hv; exact h2
  | 2, hv => simp at hv; subst hv; exact h3
  | j + 3, hv => simp at hv
set_option maxRecDepth 100000 in
set_option maxHeartbeats 8000000 in
theorem next_c (W : World) (c s bm : Nat) (room : Int) (S : List Nd5) (fr : ByteArray) (R : List Pair) (v : Value) (ts : List Pl5) (N k : Nat) (hf : fr.size ≤ 1000000) (hI : CurI (HasS S) c s fr R W v ts N k) (hs : StoreAt W s bm room S) :
    Calls Tryz.prog 44 #[.pointer (some ⟨c, 0, none⟩)] W (NextP (HasS S) c s fr R W v) := by
  have HNE := Lib.hid (show W.heap.size ≠ c ∧ v.ownBlock ≠ some W.heap.size from ⟨by have := hI.left.cur.lt; omega, fun e => by have := own_lt hI.left.row e; omega⟩)
  have HS := Lib.hid (fun w (e : Ext W w) => settle_c w c s bm room S fr R v ts N k hf ⟨hI.left.ext e, hI.stk, hI.look, hI.len⟩ (hs.ext e))
  clear hI hs
  go_enter Tryz.func44, Tryz.ntmps44
  go_wp2_with fail
  have hX0 : Ext W (W.alloc (.cells #[.string ⟨#[]⟩, .string ⟨#[]⟩] 45)) := (ExtR W).alloc _
  refine (HS.out _ hX0).mono ?_
  rintro e w1 ⟨v1, ts1, N1, k1, hT, hI, hcase⟩
  have hB0 : Blk (W.alloc (.cells #[.string ⟨#[]⟩, .string ⟨#[]⟩] 45)) W.heap.size (.cells #[.string ⟨#[]⟩, .string ⟨#[]⟩] 45) := Blk.new W _
  have hB1 := hT.blk hB0 HNE.out.1 HNE.out.2
  have HB1 := Lib.hid hB1
  have HN1 := Lib.hid (show v1.ownBlock ≠ some W.heap.size from fun e => by
    rcases hT.new with h1 | h1
    · exact HNE.out.2 (h1 ▸ e)
    · have := h1 _ e; simp at this; omega)
  have HT := Lib.hid (LeftTo.ahead hX0 hT)
  have HI := Lib.hid hI
  clear hX0 hB0 hB1 hT hI
  rcases hcase with ⟨hR, hts, rfl⟩ | ⟨t, r, R', hts, hR, h1, h2, h3, h4, rfl⟩
  · subst hts
    have hnv : nextV R = .tuple #[.agg #[.string ⟨#[]⟩, .string ⟨#[]⟩], .bool false] := by rw [hR]; rfl
    have HNV := Lib.hid hnv
    have HR := Lib.hid hR
    clear hnv hR
    go_wp2_with (refine wpList_fill (old := [.string ⟨#[]⟩, .string ⟨#[]⟩]) (vs := [.string ⟨#[]⟩, .string ⟨#[]⟩]) rfl rfl rfl rfl HB1.out rfl Tryz.szEntry (by intro u hu; simp at hu; rcases hu with rfl | rfl <;> rfl) ?_; intro W8 hB8 hE8)
    refine bodyPost_ret (results_cell_tmp rfl rfl rfl (run_loadVar_ent hB8)) rfl ?_
    have hF : ∀ x, x = W.heap.size → W.heap.size ≤ x ∧ x ≠ c ∧ v1.ownBlock ≠ some x := fun x e => by subst e; exact ⟨Nat.le_refl _, HNE.out.1, HN1.out⟩
    have hT8 := HT.out.other hE8 hF
    exact ⟨v1, [], N1, k1, hT8, ⟨hT8.at', HI.out.stk, HI.out.look, HI.out.len⟩, by rw [HNV.out]; rfl, .inl ⟨HR.out, rfl⟩⟩
  · subst hts
    have hl := HI.out.left
    rw [List.reverse_cons] at hl
    obtain ⟨g, cap, hv, hcap, p1, p2, p3⟩ := hl.last
    have hlen := HI.out.len
    have hlook := HI.out.look
    rw [List.length_cons] at hlen
    obtain ⟨m, hm⟩ : ∃ m, m = r.length := ⟨_, rfl⟩
    rw [List.length_reverse, ← hm] at hv hcap p1 p2 p3
    rw [← hm] at hlen
    obtain ⟨tp, htp⟩ : ∃ x, x = t.path := ⟨_, rfl⟩
    obtain ⟨tv, htv⟩ : ∃ x, x = t.value := ⟨_, rfl⟩
    obtain ⟨tr, htr⟩ : ∃ x, x = t.ref := ⟨_, rfl⟩
    rw [← htp] at p1
    rw [← htv] at p2
    rw [← htr] at p3
    subst hv
    have hnv : nextV R = .tuple #[.agg #[.string (pairsB tp), .string tv], .bool true] := by rw [hR, htp, htv]; rfl
    have Q2 := Lib.hid (hl.cur.cell (i := 2) (v := .slice (some ⟨g, 0, none⟩) (m + 1) cap) (by rfl))
    have P1 := Lib.hid p1
    have P2 := Lib.hid p2
    have P3 := Lib.hid p3
    have hky := key_c
    have HNV := Lib.hid hnv
    have HR := Lib.hid hR
    have hk2 : keyOk tp = true := by rw [htp]; exact h2
    have hts : tp.size ≤ 12 := by rw [htp]; exact h3
    have HK := Lib.hid (And.intro h2 h4)
    have HKY := Lib.hid (show ∀ w, Calls Tryz.prog 64 #[.string tp] w fun e w' => e = .returned (.tuple #[.string (pairsB tp), .bool true]) ∧ Ext w w' from fun w => by
      have := key_c w tp (by omega)
      unfold keyV at this
      rw [hk2] at this
      exact this)
    have i1 : ((m + 1 : Nat) : Int) - 1 = (m : Int) := by omega
    have i3 : (m : Int) < ((m + 1 : Nat) : Int) := by omega
    have i4 : (m : Int).toNat = m := by omega
    have i6 : (m : Int) ≤ 100000 := by omega
    have i7 : (0 : Int) ≤ (m : Int) := by omega
    have i8 : wrap64 ((m : Int)) = (m : Int) := by unfold wrap64; omega
    have HCC := Lib.hid (show c < w1.heap.size from hl.cur.lt)
    have HGG := Lib.hid (show g < w1.heap.size from World.block_lt_of_cell? w1 _ p1)
    clear hl hcap p1 p2 p3 hlen hlook hm htp htv htr hnv hky hR hk2 h1 h2 h3 h4
    go_wp2_with fail
    refine wp_region_mixD [0,1,2,3,4,5,6,7,8,9,10,11,12,13] [12,13] Ext (Keeps (fun b => w1.heap.size ≤ b)) ExtR ExtT (fun x y z h k => Keeps.trans h k) (fun x y h => h.mono (fun _ _ h => h.elim)) (by kernel_rfl) (by kernel_rfl) (by kernel_rfl) ?_
    iterate 1 (refine mixd_pure _ rfl (by kernel_rfl) rfl rfl (fun K hK => ?_); go_big_quiet_op; refine hK _ ?_; clear hK K)
    refine mixd_val _ (.pointer (some ⟨c, 0, none⟩)) rfl (by kernel_rfl) rfl (fun w1 _ => by kernel_rfl) ?_
    simp only [Act.put, List.setIfInBounds_toArray, List.set_cons_zero, List.set_cons_succ]
    iterate 1 (refine mixd_pure _ rfl (by kernel_rfl) rfl rfl (fun K hK => ?_); go_big_quiet_op; refine hK _ ?_; clear hK K)
    refine mixd_load ⟨c, 2, none⟩ _ rfl (by kernel_rfl) rfl rfl (fun w2 h2 => run_load_plain Tryz.uPls rfl (cell_keeps (cell_ext Q2.out (drewE _)) h2 (by have := HCC.out; exact fun e => absurd e (Nat.not_le.2 this)))) ?_
    simp only [Act.put, List.setIfInBounds_toArray, List.set_cons_zero, List.set_cons_succ]
    iterate 1 (refine mixd_pure _ rfl (by kernel_rfl) rfl rfl (fun K hK => ?_); go_big_quiet_op; refine hK _ ?_; clear hK K)
    refine mixd_val _ (.pointer (some ⟨c, 0, none⟩)) rfl (by kernel_rfl) rfl (fun w1 _ => by kernel_rfl) ?_
    simp only [Act.put, List.setIfInBounds_toArray, List.set_cons_zero, List.set_cons_succ]
    iterate 1 (refine mixd_pure _ rfl (by kernel_rfl) rfl rfl (fun K hK => ?_); go_big_quiet_op; refine hK _ ?_; clear hK K)
    refine mixd_load ⟨c, 2, none⟩ _ rfl (by kernel_rfl) rfl rfl (fun w2 h2 => run_load_plain Tryz.uPls rfl (cell_keeps (cell_ext Q2.out (drewE _)) h2 (by have := HCC.out; exact fun e => absurd e (Nat.not_le.2 this)))) ?_
    simp only [Act.put, List.setIfInBounds_toArray, List.set_cons_zero, List.set_cons_succ]
    iterate 3 (refine mixd_pure _ rfl (by kernel_rfl) rfl rfl (fun K hK => ?_); go_big_quiet_op; refine hK _ ?_; clear hK K)
    refine mixd_load ⟨g, m * 3, none⟩ _ rfl (by kernel_rfl) rfl rfl (fun w2 h2 => by
      have hng : ¬ w1.heap.size ≤ g := Nat.not_le.2 HGG.out
      exact load_pl (cell_keeps (cell_ext P1.out (drewE _)) h2 hng) (cell_keeps (cell_ext P2.out (drewE _)) h2 hng) (cell_keeps (cell_ext P3.out (drewE _)) h2 hng)) ?_
    simp only [Act.put, List.setIfInBounds_toArray, List.set_cons_zero, List.set_cons_succ]
    refine mixd_hard _ rfl (by kernel_rfl) rfl (fun w2 he K hK => ?_)
    have HX2 := Lib.hid (show Ext w1 w2 from (drewE _).trans he)
    clear he
    refine wp_value (v := .pointer (some ⟨w2.heap.size, 0, none⟩)) (w' := w2.alloc (.cells [Value.string ⟨#[]⟩, .string ⟨#[]⟩, .string ⟨#[]⟩].toArray 121)) (by simp only [execOp, Sem.run_bind, Tryz.allocPl, Result.andThen, Sem.run_pure]) (hK _ _ ((Keeps.refl _ w2).alloc _) ?_)
    clear hK K
    simp only [Act.put, List.setIfInBounds_toArray, List.set_cons_zero, List.set_cons_succ]
    refine mixd_hard _ rfl (by kernel_rfl) rfl (fun w3 he K hK => ?_)
    refine wp_fill (b := w2.heap.size) (old := [Value.string ⟨#[]⟩, .string ⟨#[]⟩, .string ⟨#[]⟩]) (vs := [.string tp, .string tv, .string tr]) rfl rfl rfl ((Blk.new w2 _).keeps he (fun h => h)) rfl Tryz.szPl (by intro u hu; simp at hu; rcases hu with rfl | rfl | rfl <;> rfl) (fun w4 hB4 hE4 => hK _ _ (hE4.mono (fun x _ e => by have := HX2.out.size; have e : x = w2.heap.size := e; omega)) ?_)
    have HX4 := Lib.hid (show Ext w1 w4 from HX2.out.trans ((((ExtR w2).alloc _).trans he).trans' hE4 (fun x hx e => by have e : x = w2.heap.size := e; omega)))
    have HB4 := Lib.hid hB4
    have H2S := Lib.hid HX2.out.size
    clear hK K he hB4 hE4
    simp only [Act.put, List.setIfInBounds_toArray, List.set_cons_zero, List.set_cons_succ]
    refine mixd_end (by kernel_rfl) (fun w5 he => ?_)
    have HX5 := Lib.hid (HX4.out.trans he)
    have hB5 := HB4.out.keeps he (fun h => h)
    have c0 := hB5.cell (i := 0) (v := .string tp) (by rfl)
    have HB5 := Lib.hid hB5
    clear he HX4 HB4 hB5
    go_wp2_with fail
    refine (HKY.out w5).mono ?_
    rintro e w6 ⟨rfl, hE⟩
    have c1 := (HB5.out.keeps hE (fun h => h)).cell (i := 1) (v := .string tv) (by rfl)
    have HX6 := Lib.hid (HX5.out.trans hE)
    have HB6 := Lib.hid (HB1.out.keeps HX6.out (fun h => h))
    clear hE HX5 HB5
    go_wp2_with (refine wpList_fill (old := [.string ⟨#[]⟩, .string ⟨#[]⟩]) (vs := [.string (pairsB tp), .string tv]) rfl rfl rfl rfl HB6.out rfl Tryz.szEntry (by intro u hu; simp at hu; rcases hu with rfl | rfl <;> rfl) ?_; intro W8 hB8 hE8)
    refine bodyPost_ret (results_cell_tmp rfl rfl rfl (run_loadVar_ent hB8)) rfl ?_
    have hF : ∀ x, x = W.heap.size → W.heap.size ≤ x ∧ x ≠ c ∧ (Value.slice (some ⟨g, 0, none⟩) (m + 1) cap).ownBlock ≠ some x := fun x e => by subst e; exact ⟨Nat.le_refl _, HNE.out.1, HN1.out⟩
    have hT8 := (HT.out.ext HX6.out).other hE8 hF
    exact ⟨_, t :: r, N1, k1, hT8, ⟨hT8.at', HI.out.stk, HI.out.look, HI.out.len⟩, by rw [HNV.out]; rfl, .inr ⟨t, r, R', rfl, HR.out, HK.out.1, HK.out.2⟩⟩
end
end Go.Proofs.YtneojlgbcaejmaaGreatDoor
/- cursor: Next, Peek. -/
namespace Go.Proofs.YtneojlgbcaejmaaGreatDoor
section
open Go Go.RowKit
set_option linter.unusedSimpArgs false
set_option linter.unusedVariables false
attribute [local go_sem] Oper.semAt_some
/-- A cursor ahead of so many entries. -/
def CurAt (S : List Nd5) (c s : Nat) (fr : ByteArray) (R : List Pair) (W : World) (v : Value) : Prop := ∃ (ts : List Pl5) (N k : Nat), CurI (HasS S) c s fr R W v ts N k
/-- What is done leaves a cursor ahead of R. -/
def CurTo (S : List Nd5) (c s : Nat) (fr : ByteArray) (W : World) (v : Value) (W' : World) (v' : Value) (R : List Pair) : Prop := ∃ (ts : List Pl5) (N k : Nat), LeftTo c s fr W v W' v' ts.reverse (k : Int) ∧ CurI (HasS S) c s fr R W' v' ts N k
theorem CurTo.at' {S : List Nd5} {c s : Nat} {fr : ByteArray} {W W' : World} {v v' : Value} {R : List Pair} (h : CurTo S c s fr W v W' v' R) : CurAt S c s fr R W' v' := by
  obtain ⟨ts, N, k, _, h2⟩ := h
  exact ⟨ts, N, k, h2⟩
theorem CurTo.kp {S : List Nd5} {c s : Nat} {fr : ByteArray} {W W' : World} {v v' : Value} {R : List Pair} (h : CurTo S c s fr W v W' v' R) : Keeps (fun b => b = c ∨ v.ownBlock = some b) W W' ∧ (v'.ownBlock = v.ownBlock ∨ ∀ b, v'.ownBlock = some b → W.heap.size ≤ b) := by
  obtain ⟨ts, N, k, h1, _⟩ := h
  exact ⟨h1.kp, h1.new⟩
theorem CurAt.lt {S : List Nd5} {c s : Nat} {fr : ByteArray} {W : World} {v : Value} {R : List Pair} (h : CurAt S c s fr R W v) : c < W.heap.size ∧ ∀ b, v.ownBlock = some b → b < W.heap.size := by
  obtain ⟨ts, N, k, h⟩ := h
  exact ⟨h.left.cur.lt, fun b hb => own_lt h.left.row hb⟩
theorem CurAt.keeps {S : List Nd5} {c s : Nat} {fr : ByteArray} {W W' : World} {v : Value} {R : List Pair} {F : BSet} (h : CurAt S c s fr R W v) (k : Keeps F W W') (h1 : ¬ F c) (h2 : ∀ b, v.ownBlock = some b → ¬ F b) : CurAt S c s fr R W' v := by
  obtain ⟨ts, N, n, h⟩ := h
  exact ⟨ts, N, n, ⟨h.left.keeps k h1 h2, h.stk, h.look, h.len⟩⟩
theorem CurAt.ext {S : List Nd5} {c s : Nat} {fr : ByteArray} {W W' : World} {v : Value} {R : List Pair} (h : CurAt S c s fr R W v) (k : Ext W W') : CurAt S c s fr R W' v := h.keeps k (fun h => h) (fun _ _ h => h)
theorem CurAt.store {S : List Nd5} {c s bm : Nat} {room : Int} {fr : ByteArray} {W W' : World} {v : Value} {R : List Pair} (h : CurAt S c s fr R W v) (hs : StoreAt W s bm room S) (k : Keeps (fun b => b = c ∨ v.ownBlock = some b) W W') : StoreAt W' s bm room S := by
  obtain ⟨ts, N, n, h⟩ := h
  exact hs.cur h.left k
theorem CurTo.other {S : List Nd5} {c s : Nat} {fr : ByteArray} {W W' W'' : World} {v v' : Value} {R : List Pair} {F : BSet} (h : CurTo S c s fr W v W' v' R) (k : Keeps F W' W'') (hF : ∀ x, F x → W.heap.size ≤ x ∧ x ≠ c ∧ v'.ownBlock ≠ some x) : CurTo S c s fr W v W'' v' R := by
  obtain ⟨ts, N, n, h1, h2⟩ := h
  have := h1.other k hF
  exact ⟨ts, N, n, this, ⟨this.at', h2.stk, h2.look, h2.len⟩⟩
theorem CurTo.ahead {S : List Nd5} {c s : Nat} {fr : ByteArray} {W0 W W' : World} {v v' : Value} {R : List Pair} (e : Ext W0 W) (h : CurTo S c s fr W v W' v' R) : CurTo S c s fr W0 v W' v' R := by
  obtain ⟨ts, N, n, h1, h2⟩ := h
  exact ⟨ts, N, n, LeftTo.ahead e h1, h2⟩
theorem Tryz.allocEnt : ∀ w, (Instr.alloc 45 true (.tuple #[])).run Tryz.prog w = .ok (.pointer (some ⟨w.heap.size, 0, none⟩)) (w.alloc (.cells [Value.string ⟨#[]⟩, .string ⟨#[]⟩].toArray 45)) := fun w => by kernel_rfl
theorem two_one (x y : ByteArray) : ∀ u ∈ [Value.string x, .string y], u.oneCell' = true := by
  intro u hu; simp at hu; rcases hu with rfl | rfl <;> rfl
set_option maxRecDepth 100000 in
set_option maxHeartbeats 8000000 in
theorem cNext_c (W : World) (c s bm : Nat) (room : Int) (S : List Nd5) (fr : ByteArray) (R : List Pair) (v : Value) (hf : fr.size ≤ 1000000) (hC : CurAt S c s fr R W v) (hs : StoreAt W s bm room S) :
    Calls Tryz.prog 22 #[.pointer (some ⟨c, 0, none⟩)] W fun e w' => e = .returned (nextV R) ∧ ∃ v', CurTo S c s fr W v w' v' R.tail := by
  obtain ⟨hc1, hc2⟩ := hC.lt
  obtain ⟨ts, N, k, hI⟩ := hC
  have HI := Lib.hid (fun w (e : Ext W w) => next_c w c s bm room S fr R v ts N k hf ⟨hI.left.ext e, hI.stk, hI.look, hI.len⟩ (hs.ext e))
  have HCC := Lib.hid (And.intro hc1 hc2)
  clear hI hs hc1 hc2
  obtain ⟨T, hT⟩ : ∃ T, T = R.tail := ⟨_, rfl⟩
  obtain ⟨V, hV⟩ : ∃ V, V = nextV R := ⟨_, rfl⟩
  have HTV := Lib.hid (And.intro hT hV)
  rw [← hT, ← hV]
  clear hT hV
  go_enter Tryz.func22, Tryz.ntmps22
  go_wp2_with (refine wpList_new Tryz.allocEnt rfl rfl ?_; intro W1 hB1 hE1)
  have HZ1 := Lib.hid (show W.heap.size < W1.heap.size from hB1.lt)
  refine (HI.out W1 hE1).mono ?_
  rintro e w2 ⟨v2, ts2, N2, k2, hT2, hI2, rfl, hcase⟩
  have hB2 := hT2.blk hB1 (by have := HCC.out.1; omega) (fun e => by have := HCC.out.2 _ e; omega)
  have HB2 := Lib.hid hB2
  have HN2 := Lib.hid (show v2.ownBlock ≠ some W.heap.size ∧ W.heap.size ≠ c from ⟨fun e => by
    rcases hT2.new with h1 | h1
    · have := HCC.out.2 _ (h1 ▸ e); omega
    · have := h1 _ e; have := HZ1.out; omega, by have := HCC.out.1; omega⟩)
  have HT2 := Lib.hid (LeftTo.ahead hE1 hT2)
  have HI2 := Lib.hid hI2
  clear hT2 hI2 hB1 hE1 hB2
  rcases hcase with ⟨hR, hts⟩ | ⟨t, r, R', hts, hR, hk, hst⟩
  · subst hts
    have hv : nextV R = .tuple #[.agg #[.string ⟨#[]⟩, .string ⟨#[]⟩], .bool false] := by rw [hR]; rfl
    have HR := Lib.hid hR
    have HV := Lib.hid hv
    rw [hv]
    clear hR hv
    go_wp2_with (first | (refine wpList_new Tryz.allocEnt rfl rfl ?_; intro W5 hB5 hE5; refine wpList_fill (vs := [.string ⟨#[]⟩, .string ⟨#[]⟩]) rfl rfl rfl rfl hB5 rfl Tryz.szEntry (two_one _ _) ?_; intro W6 hB6 hE6; have hX6 : Ext w2 W6 := hE5.trans' hE6 (fun x hx e => by have e : x = w2.heap.size := e; omega); have hBr := HB2.out.keeps hX6 (fun h => h); have hld := load_pair (b := w2.heap.size) (o := 0) (hB6.cell (i := 0) (by rfl)) (hB6.cell (i := 1) (by rfl))) | (refine wpList_load_known 45 (.tmp 4) rfl rfl _ _ rfl hld ?_) | (refine wpList_fill (vs := [.string ⟨#[]⟩, .string ⟨#[]⟩]) rfl rfl rfl rfl hBr rfl Tryz.szEntry (two_one _ _) ?_; intro W8 hB8 hE8))
    refine bodyPost_ret (results_cell_tmp rfl rfl rfl (run_loadVar_ent hB8)) rfl ?_
    have hT8 := (HT2.out.ext hX6).other hE8 (fun x e => by subst e; exact ⟨Nat.le_refl _, HN2.out.2, HN2.out.1⟩)
    refine ⟨by rw [HTV.out.2, HV.out]; rfl, v2, [], N2, k2, hT8, ⟨hT8.at', ?_, HI2.out.look, HI2.out.len⟩⟩
    have h1 := HI2.out.stk
    rw [HR.out] at h1
    rw [HTV.out.1, HR.out]; exact h1
  · subst hts
    obtain ⟨x, hx⟩ : ∃ x, x = pairsB t.path := ⟨_, rfl⟩
    obtain ⟨y, hy⟩ : ∃ y, y = t.value := ⟨_, rfl⟩
    have hv : nextV R = .tuple #[.agg #[.string x, .string y], .bool true] := by rw [hR, hx, hy]; rfl
    have HR := Lib.hid hR
    have HV := Lib.hid hv
    have HST := Lib.hid hst
    rw [hv]
    clear hR hv hx hy hst hk
    go_wp2_with (first | (refine wpList_new Tryz.allocEnt rfl rfl ?_; intro W5 hB5 hE5; refine wpList_fill (vs := [.string x, .string y]) rfl rfl rfl rfl hB5 rfl Tryz.szEntry (two_one _ _) ?_; intro W6 hB6 hE6))
    have hX6 : Ext w2 W6 := hE5.trans' hE6 (fun x hx e => by have e : x = w2.heap.size := e; omega)
    have hl := HI2.out.left
    rw [List.reverse_cons] at hl
    have hlen := HI2.out.len
    have hlook := HI2.out.look
    rw [List.length_cons] at hlen
    have hclt := HI2.out.left.cur.lt
    have hrl : ∀ b, v2.ownBlock = some b → b < w2.heap.size := fun b hb => own_lt HI2.out.left.row hb
    refine (curcut_c W6 c s fr v2 r.reverse t k2 (hl.ext hX6) (by rw [List.length_reverse]; omega)).mono ?_
    rintro e w7 ⟨rfl, v7, hT7⟩
    have hB7 := hT7.blk hB6 (by omega) (fun e => by have := hrl _ e; omega)
    have hld := load_pair (b := w2.heap.size) (o := 0) (hB7.cell (i := 0) (by rfl)) (hB7.cell (i := 1) (by rfl))
    have hBr := hT7.blk (HB2.out.keeps hX6 (fun h => h)) HN2.out.2 HN2.out.1
    have HN7 := Lib.hid (show v7.ownBlock ≠ some W.heap.size from fun e => by
      rcases hT7.new with h1 | h1
      · exact HN2.out.1 (h1 ▸ e)
      · have := h1 _ e; have := HB2.out.lt; have := hX6.size; omega)
    have HT7 := Lib.hid (HT2.out.trans (LeftTo.ahead hX6 hT7))
    clear hl hlen hclt hrl hT7 hB6 hE6 hE5 hB5
    go_wp2_with (first | (refine wpList_load_known 45 (.tmp 4) rfl rfl _ _ rfl hld ?_) | (refine wpList_fill (vs := [.string x, .string y]) rfl rfl rfl rfl hBr rfl Tryz.szEntry (two_one _ _) ?_; intro W8 hB8 hE8))
    refine bodyPost_ret (results_cell_tmp rfl rfl rfl (run_loadVar_ent hB8)) rfl ?_
    have hT8 := HT7.out.other hE8 (fun x e => by subst e; exact ⟨Nat.le_refl _, HN2.out.2, HN7.out⟩)
    refine ⟨by rw [HTV.out.2, HV.out]; rfl, v7, r, N2, k2, hT8, ⟨hT8.at', ?_, hlook, by have := HI2.out.len; rw [List.length_cons] at this; omega⟩⟩
    rw [HTV.out.1, HR.out]; exact HST.out
/-- The key that stands next. -/
def peekV : List Pair → Value
  | [] => .tuple #[.string ⟨#[]⟩, .bool false]
  | q :: _ => .tuple #[.string (pairsB q.1), .bool true]
set_option maxRecDepth 100000 in
set_option maxHeartbeats 8000000 in
theorem cPeek_c (W : World) (c s bm : Nat) (room : Int) (S : List Nd5) (fr : ByteArray) (R : List Pair) (v : Value) (hf : fr.size ≤ 1000000) (hC : CurAt S c s fr R W v) (hs : StoreAt W s bm room S) :
    Calls Tryz.prog 21 #[.pointer (some ⟨c, 0, none⟩)] W fun e w' => e = .returned (peekV R) ∧ ∃ v', CurTo S c s fr W v w' v' R := by
  obtain ⟨ts, N, k, hI⟩ := hC
  have HI := Lib.hid (next_c W c s bm room S fr R v ts N k hf hI hs)
  clear hI hs
  go_enter Tryz.func21, Tryz.ntmps21
  go_wp2_with fail
  refine HI.out.mono ?_
  rintro e w2 ⟨v2, ts2, N2, k2, hT2, hI2, rfl, hcase⟩
  have HT2 := Lib.hid hT2
  have HI2 := Lib.hid hI2
  clear hT2 hI2
  rcases hcase with ⟨hR, hts⟩ | ⟨t, r, R', hts, hR, hk, hst⟩
  · have hv : nextV R = .tuple #[.agg #[.string ⟨#[]⟩, .string ⟨#[]⟩], .bool false] := by rw [hR]; rfl
    have HP := Lib.hid (show peekV R = .tuple #[.string ⟨#[]⟩, .bool false] by rw [hR]; rfl)
    rw [hv]
    clear hR hv hts
    go_wp2_with fail
    go_ret2
    have hX := (ExtR w2).alloc (.cells #[.string ⟨#[]⟩, .string ⟨#[]⟩] 45)
    exact ⟨by rw [HP.out]; rfl, v2, ts2, N2, k2, HT2.out.ext hX, ⟨HI2.out.left.ext hX, HI2.out.stk, HI2.out.look, HI2.out.len⟩⟩
  · obtain ⟨x, hx⟩ : ∃ x, x = pairsB t.path := ⟨_, rfl⟩
    obtain ⟨y, hy⟩ : ∃ y, y = t.value := ⟨_, rfl⟩
    have hv : nextV R = .tuple #[.agg #[.string x, .string y], .bool true] := by rw [hR, hx, hy]; rfl
    have HP := Lib.hid (show peekV R = .tuple #[.string x, .bool true] by rw [hR, hx]; rfl)
    rw [hv]
    clear hR hv hx hy hst hk hts
    go_wp2_with fail
    go_ret2
    have hX := (ExtR w2).alloc (.cells #[.string x, .string y] 45)
    exact ⟨by rw [HP.out]; rfl, v2, ts2, N2, k2, HT2.out.ext hX, ⟨HI2.out.left.ext hX, HI2.out.stk, HI2.out.look, HI2.out.len⟩⟩
end
end Go.Proofs.YtneojlgbcaejmaaGreatDoor
