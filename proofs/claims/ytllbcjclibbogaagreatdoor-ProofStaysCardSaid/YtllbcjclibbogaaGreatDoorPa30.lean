/- Parts of the proof, one behind the other: TriA, TriB, TriC, PrfA, RlpS, RlpT, RlpU, RlpV, RlpW, RlpX, RlpY, RlpZ, PrfB. Each is under no condition but those that it states. -/
import Derived.Test.YtllbcjclibbogaaGreatDoorPa26
import Derived.Test.YtllbcjclibbogaaGreatDoorPa29
import Derived.Test.YtllbcjclibbogaaGreatDoorPa28
import Derived.Test.YtllbcjclibbogaaGreatDoorPa6
/- trie: what is met on the way (Path$1), at. -/
namespace Go.Proofs.YtllbcjclibbogaaGreatDoor
section
open Go Go.RowKit
set_option linter.unusedSimpArgs false
set_option linter.unusedVariables false
attribute [local go_sem] Oper.semAt_some
/-- The texts met so far, in memory: a variable, and its row, both made since z blocks. -/
structure MetAt (z g : Nat) (v : Value) (T : List ByteArray) (W : World) : Prop where
  lo : z ≤ g
  var : Blk W g (.cells #[v] 29)
  row : ∃ n, W.ownsRow 0 9 1 v n (T.map Value.string)
  own : ∀ b, v.ownBlock = some b → z ≤ b ∧ b ≠ g ∧ b < W.heap.size
theorem MetAt.ext {z g : Nat} {v : Value} {T : List ByteArray} {W W' : World} (h : MetAt z g v T W) (e : Ext W W') : MetAt z g v T W' := by
  obtain ⟨n, h1⟩ := h.row
  exact ⟨h.lo, h.var.keeps e (fun g => g), ⟨n, own_ext h1 e⟩, fun b hb => ⟨(h.own b hb).1, (h.own b hb).2.1, Nat.lt_of_lt_of_le (h.own b hb).2.2 e.size⟩⟩
theorem MetAt.off {z g : Nat} {v : Value} {T : List ByteArray} {W W' : World} {F : BSet} (h : MetAt z g v T W) (e : Keeps F W W') (h1 : ¬ F g) (h2 : ∀ b, v.ownBlock = some b → ¬ F b) : MetAt z g v T W' := by
  obtain ⟨n, h3⟩ := h.row
  exact ⟨h.lo, h.var.keeps e h1, ⟨n, own_keeps h3 e h2⟩, fun b hb => ⟨(h.own b hb).1, (h.own b hb).2.1, Nat.lt_of_lt_of_le (h.own b hb).2.2 e.size⟩⟩
/-- On from W, where v was the variable's value. -/
structure MetTo (z g : Nat) (v : Value) (W W' : World) (v' : Value) (T' : List ByteArray) : Prop where
  at' : MetAt z g v' T' W'
  kp : Keeps (fun b => b = g ∨ v.ownBlock = some b) W W'
  sub : ∀ b, v'.ownBlock = some b → v.ownBlock = some b ∨ W.heap.size ≤ b
theorem MetTo.refl {z g : Nat} {v : Value} {T : List ByteArray} {W W' : World} (h : MetAt z g v T W) (e : Ext W W') : MetTo z g v W W' v T := ⟨h.ext e, e.mono (fun _ _ h => h.elim), fun b hb => .inl hb⟩
theorem MetTo.trans {z g : Nat} {v v' v'' : Value} {T T' : List ByteArray} {W W' W'' : World} (h : MetTo z g v W W' v' T) (k : MetTo z g v' W' W'' v'' T') : MetTo z g v W W'' v'' T' :=
  ⟨k.at', h.kp.trans' k.kp (fun x hx e => by
    rcases e with e | e
    · exact .inl e
    · rcases h.sub x e with e | e
      · exact .inr e
      · omega), fun b hb => by
    rcases k.sub b hb with e | e
    · exact h.sub b e
    · exact .inr (Nat.le_trans h.kp.size e)⟩
theorem MetTo.ext {z g : Nat} {v v' : Value} {T : List ByteArray} {W W' W'' : World} (h : MetTo z g v W W' v' T) (e : Ext W' W'') : MetTo z g v W W'' v' T := h.trans (MetTo.refl h.at' e)
theorem MetTo.ahead {z g : Nat} {v v' : Value} {T : List ByteArray} {W0 W W' : World} (e : Ext W0 W) (h : MetTo z g v W W' v' T) (hv : g < W0.heap.size ∧ ∀ b, v.ownBlock = some b → b < W0.heap.size) : MetTo z g v W0 W' v' T :=
  ⟨h.at', (e.mono (fun _ _ h => h.elim)).trans' h.kp (fun x hx e => e), fun b hb => (h.sub b hb).imp id (fun k => Nat.le_trans e.size k)⟩
/-- A block of one's own, made since, stays. -/
theorem MetTo.blk {z g : Nat} {v v' : Value} {T : List ByteArray} {W W' : World} (h : MetTo z g v W W' v' T) {b : Nat} {o : Obj} (hB : Blk W b o) (h1 : b ≠ g) (h2 : v.ownBlock ≠ some b) : Blk W' b o := hB.keeps h.kp (fun e => e.elim h1 h2)
theorem MetTo.ext0 {z g : Nat} {v v' : Value} {T T' : List ByteArray} {W0 W W' : World} (h : MetTo z g v W W' v' T') (k : MetAt z g v T W) (e : Ext W0 W) (hz : W0.heap.size ≤ z) : Ext W0 W' :=
  e.trans' h.kp (fun x hx e => by
    rcases e with e | e
    · have := k.lo; omega
    · have := (k.own x e).1; omega)
theorem MetTo.fill {z g : Nat} {v v' : Value} {T : List ByteArray} {W W' W'' : World} (h : MetTo z g v W W' v' T) {L : Nat} (e : Keeps (fun b => b = L) W' W'') (h1 : L ≠ g) (h2 : v'.ownBlock ≠ some L) (h3 : W.heap.size ≤ L) : MetTo z g v W W'' v' T :=
  ⟨h.at'.off e (fun x => h1 x.symm) (fun b hb x => h2 (by rw [hb, x])), h.kp.trans' e (fun x hx y => by have y : x = L := y; omega), h.sub⟩
set_option maxRecDepth 100000 in
set_option maxHeartbeats 8000000 in
theorem meet8_c (z g : Nat) (v : Value) (T : List ByteArray) (W : World) (h : MetAt z g v T W) (hz : z ≤ W.heap.size) (hT : T.length ≤ 1000000) (x : ByteArray) :
    Calls Tryz.prog 86 #[.string x, .pointer (some ⟨g, 0, none⟩)] W fun e w' => e = .returned (.tuple #[]) ∧ ∃ v', MetTo z g v W w' v' (T ++ [x]) := by
  obtain ⟨n, hR⟩ := h.row
  have hn : n = T.length := by
    have := hR.1; simpa using this.symm
  obtain ⟨ad, cp, rfl⟩ := row_slice hR
  have q := h.var.cell (i := 0) (v := .slice ad n cp) (by rfl)
  have hm1 : n + 1 ≤ maxLen := by unfold maxLen; omega
  have hm2 : (n + 1) * 16 ≤ 140737488355328 := by omega
  have HV := Lib.hid h.var
  have HR := Lib.hid hR
  have HO := Lib.hid h.own
  have HLO := Lib.hid h.lo
  have HZ := Lib.hid hz
  have HN := Lib.hid hn
  have HT := Lib.hid hT
  clear h hR hn hz hT
  go_enter Tryz.func86, Tryz.ntmps86
  obtain ⟨i0, hi, hz0, hz1, hz2⟩ := info_parts Tryz.infoStr
  go_wp2_with (at_builtin; refine wpList_append_any _ rfl (.tmp 3) (.tmp 5) 29 rfl 9 i0 _ 1 16 Tryz.uStrs hi hz0 hz1 hz2 rfl (by decide) (.slice ad n cp) n _ rfl (own_ext HR.out ((ExtR W).alloc _)) ⟨W.heap.size, 0, none⟩ 1 1 [.string x] rfl rfl (news_blk (Blk.new W _)) (by simp [Value.oneCell']) hm1 hm2 ?_; intro v' w6 r1 r2 r3; obtain ⟨ad', cp', rfl⟩ := row_slice r1; have hgs := HV.out.lt; have hV6 := (HV.out.alloc _).keeps r2 (fun e => (HO.out g e).2.1 rfl); have q56 : w6.cell? ⟨g, 0, none⟩ = some (.slice ad n cp) := hV6.cell (i := 0) (by rfl); have f56 : w6.frozen? ⟨g, 0, none⟩ = false := hV6.frozen)
  refine bodyPost_end (results_none rfl _ _ _) rfl ?_
  have hgs := HV.out.lt
  have K7 := Keeps.oneSet w6 ⟨g, 0, none⟩ (.slice ad' (n + 1) cp')
  have hK : Keeps (fun b => b = g ∨ (Value.slice ad n cp).ownBlock = some b) W (w6.setCell ⟨g, 0, none⟩ (.slice ad' (n + 1) cp')) :=
    ((((ExtR W).alloc _).mono (fun _ _ h => h.elim) : Keeps (fun b => b = g ∨ (Value.slice ad n cp).ownBlock = some b) W _).trans' (r2.mono (fun _ _ e => .inr e) : Keeps (fun b => b = g ∨ (Value.slice ad n cp).ownBlock = some b) _ w6) (fun x hx e => e)).trans' K7 (fun x hx e => .inl e)
  have hsub : ∀ b, (Value.slice ad' (n + 1) cp').ownBlock = some b → (Value.slice ad n cp).ownBlock = some b ∨ W.heap.size ≤ b := fun b hb => by
    rcases r3 with r3 | r3
    · exact .inl (r3 ▸ hb)
    · have h9 := r3 b hb; rw [World.size_alloc] at h9; exact .inr (by omega)
  have hne : ∀ b, (Value.slice ad' (n + 1) cp').ownBlock = some b → b ≠ g := fun b hb => by
    rcases hsub b hb with e | e
    · exact (HO.out b e).2.1
    · omega
  refine ⟨rfl, .slice ad' (n + 1) cp', ⟨HLO.out, hV6.set_same (i := 0) _, ⟨n + 1, ?_⟩, fun b hb => ⟨?_, hne b hb, ?_⟩⟩, hK, hsub⟩
  · rw [List.map_append]
    exact own_keeps r1 K7 (fun b hb e => hne b hb e)
  · rcases hsub b hb with e | e
    · exact (HO.out b e).1
    · exact Nat.le_trans HZ.out e
  · exact Nat.lt_of_lt_of_le (own_lt r1 hb) K7.size
def AtPost (z g : Nat) (v : Value) (T : List ByteArray) (W : World) (n : NodeT) (e : Ending) (w' : World) : Prop := e = .returned (.tuple #[n.V, .bool true]) ∧ ∃ v', MetTo z g v W w' v' T
set_option maxRecDepth 100000 in
set_option maxHeartbeats 8000000 in
theorem at8_c (w0 W : World) (s bm : Nat) (room : Int) (S : List Nd5) (hs : StoreAt w0 s bm room S) (hE0 : Ext w0 W) (g : Nat) (v : Value) (T : List ByteArray) (h : MetAt w0.heap.size g v T W) (hT : T.length ≤ 1000000) (t : ByteArray) (hH : HasS S t) (f : Nat) (n : NodeT) (hg : GoodW (InlD f) n) (ht : t = nodeB n) :
    Calls Tryz.prog 119 #[.pointer (some ⟨s, 0, none⟩), .string (shaB t), .func (.func 86) #[] #[.pointer (some ⟨g, 0, none⟩)]] W (AtPost w0.heap.size g v (T ++ [t]) W n) := by
  have HS := Lib.hid hs
  have HE0 := Lib.hid hE0
  have HM := Lib.hid h
  have HT := Lib.hid ht
  have HG := Lib.hid hg
  have hn := (hg.one (inlP f)).refs
  have HN := Lib.hid hn
  have HL := Lib.hid (n.cells_len hn)
  have HTL := Lib.hid hT
  obtain ⟨y, hy1, hy2⟩ := hH
  have hsg := fun w (h : StoreAt w s bm room S) => sget_c w s bm room S (shaB t) h
  have hy1 : atL S (shaB t).data.toList = some y := hy1
  rw [hy1] at hsg
  have hye : (some y).map (fun z : Nd5 => z.2.2.text) = some t := by rw [← hy2]; rfl
  simp only [hye] at hsg
  have HSG := Lib.hid hsg
  obtain ⟨k, hk⟩ : ∃ k, k = shaB t := ⟨_, rfl⟩
  rw [← hk] at HSG ⊢
  clear h hs hE0 ht hg hn hy1 hy2 hsg hye hk hT
  go_enter Tryz.func119, Tryz.ntmps119
  go_wp2_with (refine wpList_new Tryz.allocNode rfl rfl ?_; intro W1 hB1 hE1)
  refine (HSG.out W1 (HS.out.ext (HE0.out.trans hE1))).mono ?_
  rintro e w3 ⟨rfl, hE⟩
  unfold optV
  have HB3 := Lib.hid (hB1.keeps hE (fun h => h))
  have HE3 := Lib.hid (hE1.trans hE)
  have HM3 := Lib.hid (HM.out.ext HE3.out)
  clear hE hB1 hE1
  go_wp2_with fail
  refine (meet8_c w0.heap.size g v T w3 HM3.out (HE0.out.trans HE3.out).size HTL.out t).mono ?_
  rintro e w4 ⟨rfl, v', hT4⟩
  have hgs := HM.out.var.lt
  have HB4 := Lib.hid (hT4.blk HB3.out (by omega) (fun e => by have := (HM.out.own _ e).2.2; omega))
  have HT4 := Lib.hid hT4
  clear hT4 hgs
  go_wp2_with fail
  rw [HT.out]
  refine (get_c4 (inlP f) w4 n HG.out).mono ?_
  rintro e w5 ⟨rfl, hE⟩
  rw [← HT.out]
  have hB5r := HB4.out.keeps hE (fun h => h)
  have HE5 := Lib.hid hE
  clear hE HB4
  unfold NodeT.V
  go_wp2_with (first | (refine wpList_new Tryz.allocNode rfl rfl ?_; intro W5 hB5 hE5; refine wpList_fill (vs := n.cells) rfl rfl rfl rfl hB5 (by rw [HL.out]; rfl) (by rw [HL.out]; exact Tryz.szNode) n.one ?_; intro W6 hB6 hE6; have hB56 := (hB5r.keeps hE5 (fun h => h)).keeps hE6 (by have := hB5r.lt; omega)) | (refine wpList_load_known 60 (.tmp 10) rfl rfl _ _ rfl (run_load_api _ _ n HN.out hB6) ?_) | (refine wpList_fill (vs := n.cells) rfl rfl rfl rfl hB56 (by rw [HL.out]; rfl) (by rw [HL.out]; exact Tryz.szNode) n.one ?_; intro W8 hB8 hE8))
  refine bodyPost_ret (results_cell_tmp rfl rfl rfl (run_loadVar_api W8 _ n HN.out hB8)) rfl ?_
  have hX6 : Ext w4 W6 := (HE5.out.trans hE5).trans' hE6 (fun x hx e => by have e : x = w5.heap.size := e; have := HE5.out.size; omega)
  have hM6 := HT4.out.ext hX6
  have hs0 : W.heap.size < W6.heap.size := hB56.lt
  have k8 : Keeps (fun b => b = g ∨ v.ownBlock = some b) W W8 := ((HE3.out.mono (fun _ _ h => h.elim) : Keeps (fun b => b = g ∨ v.ownBlock = some b) W w3).trans' hM6.kp (fun x hx e => e)).trans' hE8 (fun x hx e => by have e : x = W.heap.size := e; omega)
  have hgs := HM.out.var.lt
  refine ⟨rfl, v', ⟨hM6.at'.off hE8 (fun e => by have e : g = W.heap.size := e; omega) (fun b hb e => ?_), k8, fun b hb => (hM6.sub b hb).imp id (fun k => Nat.le_trans HE3.out.size k)⟩⟩
  have e : b = W.heap.size := e
  rcases hM6.sub b hb with k | k
  · have := (HM.out.own b k).2.2; omega
  · have := HB3.out.lt; omega
end
end Go.Proofs.YtllbcjclibbogaaGreatDoor
/- trie: follow. -/
namespace Go.Proofs.YtllbcjclibbogaaGreatDoor
section
open Go Go.RowKit
set_option linter.unusedSimpArgs false
set_option linter.unusedVariables false
attribute [local go_sem] Oper.semAt_some
theorem drewNE (w : World) (n : Nat) : Ext w (w.drewN n) := (ExtR w).drewN n
def FoRel (z g L : Nat) (v : Value) (W : World) (S : List Nd5) (A : List ByteArray) (V : Option ByteArray) (okv pv : Value) (wr : World) : Prop :=
  ∃ (p : ByteArray) (T : List ByteArray) (v' : Value), pv = .string p ∧ MetTo z g v W wr v' T ∧ v'.ownBlock ≠ some L ∧
   ((okv = .bool true ∧ ∃ f l, RowsOk f l ∧ validN p = true ∧ p.size ≤ 2000 ∧ T ++ wayL f l p = A ∧ valL l p = V ∧ Blk wr L (.cells (nodeF (buildT f) l).cells.toArray 60) ∧ (∀ x ∈ flatT (buildT (f + 1) l), 32 ≤ x.size → HasS S x)) ∨
    (okv = .bool false ∧ T = A ∧ V = none))
def foM : Value → Value → Nat | .bool true, pv => strSz pv + 1 | _, _ => 0
def folV : Option ByteArray → Value | some u => .tuple #[.string u, .int .i64 0] | none => .tuple #[.string ⟨#[]⟩, .int .i64 9]
def FoPost (z g : Nat) (v : Value) (W : World) (A : List ByteArray) (V : Option ByteArray) (e : Ending) (w' : World) : Prop := e = .returned (folV V) ∧ ∃ v', MetTo z g v W w' v' A
set_option maxRecDepth 100000 in
set_option maxHeartbeats 16000000 in
theorem follow8_c (w0 W : World) (s bm : Nat) (room : Int) (S : List Nd5) (hs : StoreAt w0 s bm room S) (hE0 : Ext w0 W) (g : Nat) (v : Value) (h : MetAt w0.heap.size g v [] W) (l : List Pair) (hM : HasM S l) (key : ByteArray) (hk : key.size ≤ 1000) :
    Calls Tryz.prog 85 #[.pointer (some ⟨s, 0, none⟩), .string (shaB (trieT l).text), .string key, .func (.func 86) #[] #[.pointer (some ⟨g, 0, none⟩)]] W (FoPost w0.heap.size g v W ((trieT l).text :: wayL 12 (rowsL l) (pathB key)) (valL (rowsL l) (pathB key))) := by
  have HS := Lib.hid hs
  have HE0 := Lib.hid hE0
  have HM := Lib.hid h
  have hrows := rows_ok (check_ok hM.ok)
  have HROWS := Lib.hid hrows
  have hgood := (good 12 (rowsL l) hrows).1
  obtain ⟨n, hn⟩ : ∃ n, n = nodeF (buildT 12) (rowsL l) := ⟨_, rfl⟩
  rw [← hn] at hgood
  have hat := at8_c w0 W s bm room S hs hE0 g v [] h (by simp) (trieT l).text (hM.has _ (text_mem _)) 12 n hgood (by rw [hn]; rfl)
  have HAT := Lib.hid hat
  have HL := Lib.hid (n.cells_len (hgood.one (inlP 12)).refs)
  have HAS := Lib.hid hM.has
  have HN := Lib.hid hn
  have HK := Lib.hid hk
  obtain ⟨A, hA⟩ : ∃ A, A = (trieT l).text :: wayL 12 (rowsL l) (pathB key) := ⟨_, rfl⟩
  obtain ⟨V, hV⟩ : ∃ V, V = valL (rowsL l) (pathB key) := ⟨_, rfl⟩
  have HA := Lib.hid hA
  have HV := Lib.hid hV
  rw [← hA, ← hV]
  obtain ⟨k0, hk0⟩ : ∃ k, k = shaB (trieT l).text := ⟨_, rfl⟩
  rw [← hk0] at HAT ⊢
  clear hs hE0 h hrows hgood hn hat hM hk hA hV hk0
  go_enter Tryz.func85, Tryz.ntmps85
  go_wp2_with fail
  refine HAT.out.mono ?_
  rintro e w1 ⟨rfl, v1, hT1⟩
  have HT1 := Lib.hid hT1
  clear hT1
  unfold NodeT.V
  go_wp2_with (first | (refine wpList_new Tryz.allocNode rfl rfl ?_; intro W5 hB5 hE5; refine wpList_fill (vs := n.cells) rfl rfl rfl rfl hB5 (by rw [HL.out]; rfl) (by rw [HL.out]; exact Tryz.szNode) n.one ?_; intro W6 hB6 hE6))
  refine (path_c _ key (by have := HK.out; omega)).mono ?_
  rintro e w7 ⟨rfl, hE⟩
  have hX6 : Ext w1 W6 := hE5.trans' hE6 (fun x hx e => by have e : x = w1.heap.size := e; omega)
  have HT7 := Lib.hid ((HT1.out.ext hX6).ext hE)
  have HB7 := Lib.hid (hB6.keeps hE (fun h => h))
  have HLN := Lib.hid (show w1.heap.size ≠ g ∧ v1.ownBlock ≠ some w1.heap.size from ⟨by have := HT1.out.at'.var.lt; omega, fun e => by have := (HT1.out.at'.own _ e).2.2; omega⟩)
  have HLW := Lib.hid (show W.heap.size ≤ w1.heap.size from HT1.out.kp.size)
  obtain ⟨L, hL⟩ : ∃ L, L = w1.heap.size := ⟨_, rfl⟩
  rw [← hL] at HB7 HLN HLW ⊢
  clear hL hE hX6 hB5 hE5 hB6 hE6
  obtain ⟨pk, hpk⟩ : ∃ pk, pk = pathB key := ⟨_, rfl⟩
  have HPK := Lib.hid hpk
  rw [← hpk]
  clear hpk
  go_wp2_with fail
  go_loopw [11, 12] (fun okv pv wr => FoRel w0.heap.size g L v W S A V okv pv wr) (fun okv pv _ => foM okv pv)
  case atStart =>
    refine ⟨pk, _, v1, rfl, HT7.out, HLN.out.2, .inl ⟨rfl, 12, rowsL l, HROWS.out, by rw [HPK.out]; exact path_valid key, by rw [HPK.out, path_size]; have := HK.out; omega, ?_, by rw [HPK.out, ← HV.out], by rw [← HN.out]; exact HB7.out, fun x hx _ => HAS.out x hx⟩⟩
    rw [HA.out, HPK.out]; rfl
  case round =>
    obtain ⟨p, T, v', rfl, hT, hown, hc⟩ := hrel
    have HT := Lib.hid hT
    have HOW := Lib.hid hown
    have HE := Lib.hid (HT.out.ext0 HM.out HE0.out (Nat.le_refl _))
    clear hT hown
    rcases hc with ⟨rfl, f, l', h1, h2, h3, h4, h5, h6, h7⟩ | ⟨rfl, h1, h2⟩
    case inr =>
      have HF := Lib.hid (And.intro h1 h2)
      clear h1 h2
      go_wp2_with fail
      go_ret2
      refine ⟨by rw [HF.out.2]; rfl, v', ?_⟩
      rw [← HF.out.1]; exact HT.out
    case inl =>
      have HC := Lib.hid (And.intro h1 (And.intro h2 (And.intro h3 (And.intro h4 (And.intro h5 h7)))))
      have hgd := (good f l' h1).1
      obtain ⟨⟨k, pa, va, rs⟩, hn⟩ : ∃ n, n = nodeF (buildT f) l' := ⟨_, rfl⟩
      rw [← hn] at hgd h6
      have HGD := Lib.hid hgd
      have HB := Lib.hid h6
      have HNN := Lib.hid hn
      have hk3 : k ≤ 3 := (hgd.one (inlP f)).kind
      have hrs : rs.length = 16 := (hgd.one (inlP f)).refs
      have hps : pa.size ≤ 12 := (hgd.one (inlP f)).path
      have HRS := Lib.hid hrs
      have HCL := Lib.hid (NodeT.cells_len ⟨k, pa, va, rs⟩ hrs)
      have hE7 : p.size ≤ 1000000 := by omega
      have q0 := h6.cellL (i := 0) (v := .int .i64 k) (by rfl)
      have q1 := h6.cellL (i := 1) (v := .string pa) (by rfl)
      have q2 := h6.cellL (i := 2) (v := .string va) (by rfl)
      have Q3 := Lib.hid (show ∀ i r, rs[i]? = some r → wr.cell? ⟨L, 3 + i, none⟩ = some (.string r) from fun i r hi => h6.cellL (i := 3 + i) (v := .string r) (by
        show (_ :: _ :: _ :: rs.map Value.string)[3 + i]? = _
        rw [show 3 + i = i + 1 + 1 + 1 by omega]
        simp [hi]))
      clear hn hrs h1 h2 h4 h5 h6 h7 hgd
      have hem : (⟨#[]⟩ : ByteArray).toList.isEmpty = true := by rw [ByteArray.toList_eq]; rfl
      cases hg : goL l' p with
      | none =>
        obtain ⟨s1, s2⟩ := go_none HC.out.1 HC.out.2.1 hg
        rw [← HNN.out] at s1 s2
        have hwn : wayL f l' p = [] := by
          cases f with
          | zero => rfl
          | succ f => exact way_none hg
        have HTA := Lib.hid (show T = A by rw [← HC.out.2.2.2.1, hwn, List.append_nil])
        have HVV := Lib.hid (show V = claimN ⟨k, pa, va, rs⟩ p by rw [s2, HC.out.2.2.2.2.1])
        clear hwn hg s2
        cases hcl : claimN ⟨k, pa, va, rs⟩ p with
        | some u =>
          rw [hcl] at HVV
          have HST := Lib.hid (step_is hcl)
          clear s1 hcl
          rcases HST.out with ⟨rfl, rfl, rfl⟩ | ⟨rfl, rfl, rfl, hz⟩
          · have q0' : wr.cell? ⟨L, 0, none⟩ = some (.int .i64 1) := q0
            clear q0
            go_wp2_with fail
            go_ret2
            refine ⟨by rw [HVV.out]; rfl, v', by rw [← HTA.out]; exact HT.out⟩
          · have q0' : wr.cell? ⟨L, 0, none⟩ = some (.int .i64 3) := q0
            have hve : va.toList.isEmpty = false := by
              rw [Bool.eq_false_iff]
              intro e
              rw [List.isEmpty_iff, ByteArray.toList_eq] at e
              exact hz (by rw [← size_list, e]; rfl)
            clear q0
            go_wp2_with fail
            go_ret2
            refine ⟨by rw [HVV.out]; rfl, v', by rw [← HTA.out]; exact HT.out⟩
        | none =>
          rw [hcl] at HVV
          have HNO := Lib.hid (step_no HGD.out HC.out.2.1 s1 hcl)
          clear s1 hcl
          rcases HNO.out with rfl | ⟨rfl, hne⟩ | ⟨rfl, hpre⟩ | ⟨rfl, rfl, rfl⟩ | ⟨rfl, x, t, hx, hr⟩
          · have q0' : wr.cell? ⟨L, 0, none⟩ = some (.int .i64 0) := q0
            clear q0
            go_wp2_with fail
            refine (hash_empty _).mono ?_
            rintro e w2 ⟨rfl, hE⟩
            have HE2 : Hid (Ext wr w2) := Lib.hid (by first | exact hE | exact (drewNE _ _).trans hE)
            clear hE
            go_wp2_with fail
            refine (inl_empty w2).mono ?_
            rintro e w3 ⟨rfl, hE⟩
            have HE3 := Lib.hid (HE2.out.trans hE)
            have hB3 := HB.out.keeps HE3.out (fun h => h)
            clear hE HE2
            unfold NodeT.V
            go_wp2_with (refine wpList_fill (vs := emptyN.cells) rfl rfl rfl rfl hB3 (by rw [HCL.out]; rfl) (by first | exact Tryz.szNode | (rw [HCL.out]; exact Tryz.szNode)) emptyN.one ?_; intro W8 hB8 hE8)
            go_roundw
            case rel => exact ⟨_, T, v', rfl, (HT.out.ext HE3.out).fill hE8 HLN.out.1 HOW.out HLW.out, HOW.out, .inr ⟨rfl, HTA.out, HVV.out⟩⟩
            case measure => simp [foM]
          · have q0' : wr.cell? ⟨L, 0, none⟩ = some (.int .i64 1) := q0
            have hne := toList_ne hne
            clear q0
            go_wp2_with fail
            refine (hash_empty _).mono ?_
            rintro e w2 ⟨rfl, hE⟩
            have HE2 : Hid (Ext wr w2) := Lib.hid (by first | exact hE | exact (drewNE _ _).trans hE)
            clear hE
            go_wp2_with fail
            refine (inl_empty w2).mono ?_
            rintro e w3 ⟨rfl, hE⟩
            have HE3 := Lib.hid (HE2.out.trans hE)
            have hB3 := HB.out.keeps HE3.out (fun h => h)
            clear hE HE2
            unfold NodeT.V
            go_wp2_with (refine wpList_fill (vs := emptyN.cells) rfl rfl rfl rfl hB3 (by rw [HCL.out]; rfl) (by first | exact Tryz.szNode | (rw [HCL.out]; exact Tryz.szNode)) emptyN.one ?_; intro W8 hB8 hE8)
            go_roundw
            case rel => exact ⟨_, T, v', rfl, (HT.out.ext HE3.out).fill hE8 HLN.out.1 HOW.out HLW.out, HOW.out, .inr ⟨rfl, HTA.out, HVV.out⟩⟩
            case measure => simp [foM]
          · have q0' : wr.cell? ⟨L, 0, none⟩ = some (.int .i64 2) := q0
            have HPR := Lib.hid hpre
            clear q0 hpre
            go_wp2_with fail
            refine (hasPrefix_c _ p pa (by omega) (by omega)).mono ?_
            rintro e w1' ⟨rfl, hw1⟩
            rw [hw1]
            clear hw1
            rw [HPR.out]
            go_wp2_with fail
            refine (hash_empty _).mono ?_
            rintro e w2 ⟨rfl, hE⟩
            have HE2 : Hid (Ext wr w2) := Lib.hid (by first | exact hE | exact (drewNE _ _).trans hE)
            clear hE
            go_wp2_with fail
            refine (inl_empty w2).mono ?_
            rintro e w3 ⟨rfl, hE⟩
            have HE3 := Lib.hid (HE2.out.trans hE)
            have hB3 := HB.out.keeps HE3.out (fun h => h)
            clear hE HE2
            unfold NodeT.V
            go_wp2_with (refine wpList_fill (vs := emptyN.cells) rfl rfl rfl rfl hB3 (by rw [HCL.out]; rfl) (by first | exact Tryz.szNode | (rw [HCL.out]; exact Tryz.szNode)) emptyN.one ?_; intro W8 hB8 hE8)
            go_roundw
            case rel => exact ⟨_, T, v', rfl, (HT.out.ext HE3.out).fill hE8 HLN.out.1 HOW.out HLW.out, HOW.out, .inr ⟨rfl, HTA.out, HVV.out⟩⟩
            case measure => simp [foM]
          · have q0' : wr.cell? ⟨L, 0, none⟩ = some (.int .i64 3) := q0
            clear q0
            go_wp2_with fail
            refine (hash_empty _).mono ?_
            rintro e w2 ⟨rfl, hE⟩
            have HE2 : Hid (Ext wr w2) := Lib.hid (by first | exact hE | exact (drewNE _ _).trans hE)
            clear hE
            go_wp2_with fail
            refine (inl_empty w2).mono ?_
            rintro e w3 ⟨rfl, hE⟩
            have HE3 := Lib.hid (HE2.out.trans hE)
            have hB3 := HB.out.keeps HE3.out (fun h => h)
            clear hE HE2
            unfold NodeT.V
            go_wp2_with (refine wpList_fill (vs := emptyN.cells) rfl rfl rfl rfl hB3 (by rw [HCL.out]; rfl) (by first | exact Tryz.szNode | (rw [HCL.out]; exact Tryz.szNode)) emptyN.one ?_; intro W8 hB8 hE8)
            go_roundw
            case rel => exact ⟨_, T, v', rfl, (HT.out.ext HE3.out).fill hE8 HLN.out.1 HOW.out HLW.out, HOW.out, .inr ⟨rfl, HTA.out, HVV.out⟩⟩
            case measure => simp [foM]
          · have q0' : wr.cell? ⟨L, 0, none⟩ = some (.int .i64 3) := q0
            obtain ⟨h0, hx0⟩ := first_is hx
            have hx16 : x.toNat < 16 := nib_lt (p := (p, p)) HC.out.2.1 hx
            have q3 := Q3.out _ _ hr
            rw [← hx0] at q3 hx16
            have hpe : p.toList.isEmpty = false := by
              rw [Bool.eq_false_iff]
              intro e
              rw [List.isEmpty_iff, ByteArray.toList_eq] at e
              rw [hx] at e; cases e
            have c1 : (0 : Int) < (p.size : Int) := by omega
            have c2 : ((p[0]'h0).toNat : Int) < 16 := by omega
            have c3 : (1 : Int) ≤ (p.size : Int) := by omega
            clear q0 hx hr hx0
            go_wp2_with fail
            go_quiet (fail)
            go_wp2_with fail
            refine (hash_empty _).mono ?_
            rintro e w2 ⟨rfl, hE⟩
            have HE2 : Hid (Ext wr w2) := Lib.hid (by first | exact hE | exact (drewNE _ _).trans hE)
            clear hE
            go_wp2_with fail
            refine (inl_empty w2).mono ?_
            rintro e w3 ⟨rfl, hE⟩
            have HE3 := Lib.hid (HE2.out.trans hE)
            have hB3 := HB.out.keeps HE3.out (fun h => h)
            clear hE HE2
            unfold NodeT.V
            go_wp2_with (refine wpList_fill (vs := emptyN.cells) rfl rfl rfl rfl hB3 (by rw [HCL.out]; rfl) (by first | exact Tryz.szNode | (rw [HCL.out]; exact Tryz.szNode)) emptyN.one ?_; intro W8 hB8 hE8)
            go_roundw
            case rel => exact ⟨_, T, v', rfl, (HT.out.ext HE3.out).fill hE8 HLN.out.1 HOW.out HLW.out, HOW.out, .inr ⟨rfl, HTA.out, HVV.out⟩⟩
            case measure => simp [foM]
      | some mq =>
        obtain ⟨m, q⟩ := mq
        cases f with
        | zero => rw [way_zero HC.out.1] at hg; cases hg
        | succ f =>
          have hK := go_some HC.out.1 HC.out.2.1 hg
          have hst := (good f m hK.rows).2.1 hK.ne
          have hpos := ref_pos hK.rows hK.ne
          have hstep := hK.step
          rw [← HNN.out] at hstep
          have hy := step_yes HGD.out HC.out.2.1 hstep hpos
          have hway := way_some (f := f) hg
          obtain ⟨tx, htx⟩ : ∃ tx, tx = (buildT (f + 1) m).text := ⟨_, rfl⟩
          obtain ⟨m', hm'⟩ : ∃ m', m' = nodeF (buildT f) m := ⟨_, rfl⟩
          obtain ⟨rt, hrt⟩ : ∃ rt, rt = refB (buildT (f + 1) m).text := ⟨_, rfl⟩
          have HMM := Lib.hid hm'
          have HMG := Lib.hid (show GoodW (InlD f) m' by rw [hm']; exact hst.good)
          have HML := Lib.hid (m'.cells_len (HMG.out.one (inlP f)).refs)
          have HTX := Lib.hid (show tx = nodeB m' by rw [htx, hm']; exact hst.text)
          rw [← hrt] at hy
          have HY := Lib.hid hy
          have HK2 := Lib.hid hK
          have HTN := Lib.hid (show T.length ≤ 100000 by have h8 := congrArg List.length HC.out.2.2.2.1; rw [HA.out, List.length_append, List.length_cons] at h8; have := way_len 12 (rowsL l) (pathB key); omega)
          by_cases hz : (buildT (f + 1) m).text.size < 32
          · have hI := hst.may.2 hz
            obtain ⟨qh, h1, h2⟩ := (inlP (f + 1)).nohash _ _ hI
            rw [← hrt] at h1 h2 hI
            have HH := Lib.hid (And.intro h1 h2)
            have HRZ := Lib.hid (show rt.size ≤ 1000000000 by rw [hrt, refB_small hz]; omega)
            have HIN := Lib.hid (fun w => (inlP (f + 1)).inl _ _ hI w)
            rw [← hm'] at HIN
            have HWY := Lib.hid (show wayL (f + 1) l' p = wayL f m q by rw [hway]; unfold bigs; rw [if_pos hz]; rfl)
            clear hK hst hpos hstep hy hway htx hm' hrt hI h1 h2 hz hg
            rcases HY.out with ⟨rfl, hpre, hr, rfl, hle⟩ | ⟨rfl, x, t, hx, hr, rfl⟩
            · have q0' : wr.cell? ⟨L, 0, none⟩ = some (.int .i64 2) := q0
              have HPR := Lib.hid hpre
              have q3 := Q3.out 0 _ hr
              have c1 : (pa.size : Int) ≤ (p.size : Int) := by omega
              clear q0 hpre hr hle
              go_wp2_with fail
              refine (hasPrefix_c _ p pa (by omega) (by omega)).mono ?_
              rintro e w1' ⟨rfl, hw1⟩
              rw [hw1]
              clear hw1
              rw [HPR.out]
              go_wp2_with fail
              go_quiet (fail)
              go_wp2_with fail
              refine (hash_c _ rt qh HRZ.out HH.out.1).mono ?_
              rintro e w2 ⟨rfl, hE⟩
              rw [HH.out.2]
              have HE2 : Hid (Ext wr w2) := Lib.hid (by first | exact hE | exact (drewNE _ _).trans hE)
              clear hE
              unfold optV
              go_wp2_with fail
              refine (HIN.out w2).mono ?_
              rintro e w3 ⟨rfl, hE⟩
              have HE3 := Lib.hid (HE2.out.trans hE)
              have hB3 := HB.out.keeps HE3.out (fun h => h)
              clear hE HE2
              unfold NodeT.V
              go_wp2_with (refine wpList_fill (vs := m'.cells) rfl rfl rfl rfl hB3 (by rw [HCL.out, HML.out]) (by rw [HML.out]; exact Tryz.szNode) m'.one ?_; intro W8 hB8 hE8)
              go_roundw
              case rel => exact ⟨_, T, v', rfl, (HT.out.ext HE3.out).fill hE8 HLN.out.1 HOW.out HLW.out, HOW.out, .inl ⟨rfl, f, m, HK2.out.rows, HK2.out.valid, by have := HK2.out.less; have := HC.out.2.2.1; omega, by rw [← HWY.out]; exact HC.out.2.2.2.1, by rw [HK2.out.find]; exact HC.out.2.2.2.2.1, by rw [← HMM.out]; exact hB8, fun x hx h32 => HC.out.2.2.2.2.2 x (HK2.out.flat x hx h32) h32⟩⟩
              case measure => have h9 := HK2.out.less; simp only [foM, strSz]; omega
            · have q0' : wr.cell? ⟨L, 0, none⟩ = some (.int .i64 3) := q0
              obtain ⟨h0, hx0⟩ := first_is hx
              have hx16 : x.toNat < 16 := nib_lt (p := (p, p)) HC.out.2.1 hx
              have q3 := Q3.out _ _ hr
              rw [← hx0] at q3 hx16
              have hpe : p.toList.isEmpty = false := by
                rw [Bool.eq_false_iff]
                intro e
                rw [List.isEmpty_iff, ByteArray.toList_eq] at e
                rw [hx] at e; cases e
              have c1 : (0 : Int) < (p.size : Int) := by omega
              have c2 : ((p[0]'h0).toNat : Int) < 16 := by omega
              have c3 : (1 : Int) ≤ (p.size : Int) := by omega
              clear q0 hx hr hx0
              go_wp2_with fail
              go_quiet (fail)
              go_wp2_with fail
              refine (hash_c _ rt qh HRZ.out HH.out.1).mono ?_
              rintro e w2 ⟨rfl, hE⟩
              rw [HH.out.2]
              have HE2 : Hid (Ext wr w2) := Lib.hid (by first | exact hE | exact (drewNE _ _).trans hE)
              clear hE
              unfold optV
              go_wp2_with fail
              refine (HIN.out w2).mono ?_
              rintro e w3 ⟨rfl, hE⟩
              have HE3 := Lib.hid (HE2.out.trans hE)
              have hB3 := HB.out.keeps HE3.out (fun h => h)
              clear hE HE2
              unfold NodeT.V
              go_wp2_with (refine wpList_fill (vs := m'.cells) rfl rfl rfl rfl hB3 (by rw [HCL.out, HML.out]) (by rw [HML.out]; exact Tryz.szNode) m'.one ?_; intro W8 hB8 hE8)
              go_roundw
              case rel => exact ⟨_, T, v', rfl, (HT.out.ext HE3.out).fill hE8 HLN.out.1 HOW.out HLW.out, HOW.out, .inl ⟨rfl, f, m, HK2.out.rows, HK2.out.valid, by have := HK2.out.less; have := HC.out.2.2.1; omega, by rw [← HWY.out]; exact HC.out.2.2.2.1, by rw [HK2.out.find]; exact HC.out.2.2.2.2.1, by rw [← HMM.out]; exact hB8, fun x hx h32 => HC.out.2.2.2.2.2 x (HK2.out.flat x hx h32) h32⟩⟩
              case measure => have h9 := HK2.out.less; simp only [foM, strSz]; omega
          · obtain ⟨qh, h1, h2⟩ := hash_text (shaB tx) (shaB_size _)
            have hrt2 : rt = textB (shaB tx) := by rw [hrt, refB_big hz, htx]
            rw [← hrt2] at h1 h2
            have HH := Lib.hid (And.intro h1 h2)
            have HRZ := Lib.hid (show rt.size ≤ 1000000000 by rw [hrt2]; have := textB_size (shaB tx); have := shaB_size tx; omega)
            have HWY := Lib.hid (show wayL (f + 1) l' p = tx :: wayL f m q by rw [hway, htx]; unfold bigs; rw [if_neg hz]; rfl)
            have HHS := Lib.hid (show HasS S tx from HC.out.2.2.2.2.2 tx (by rw [htx]; exact hK.flat _ (text_mem _) (by omega)) (by rw [htx]; omega))
            clear hK hst hpos hstep hy hway htx hm' hrt h1 h2 hz hg hrt2
            rcases HY.out with ⟨rfl, hpre, hr, rfl, hle⟩ | ⟨rfl, x, t, hx, hr, rfl⟩
            · have q0' : wr.cell? ⟨L, 0, none⟩ = some (.int .i64 2) := q0
              have HPR := Lib.hid hpre
              have q3 := Q3.out 0 _ hr
              have c1 : (pa.size : Int) ≤ (p.size : Int) := by omega
              clear q0 hpre hr hle
              go_wp2_with fail
              refine (hasPrefix_c _ p pa (by omega) (by omega)).mono ?_
              rintro e w1' ⟨rfl, hw1⟩
              rw [hw1]
              clear hw1
              rw [HPR.out]
              go_wp2_with fail
              go_quiet (fail)
              go_wp2_with fail
              refine (hash_c _ rt qh HRZ.out HH.out.1).mono ?_
              rintro e w2 ⟨rfl, hE⟩
              rw [HH.out.2]
              have HE2 : Hid (Ext wr w2) := Lib.hid (by first | exact hE | exact (drewNE _ _).trans hE)
              have HT2 := Lib.hid (HT.out.ext HE2.out)
              clear hE
              unfold optV
              go_wp2_with fail
              refine (at8_c w0 w2 s bm room S HS.out (HE.out.trans HE2.out) g v' T HT2.out.at' (by have := HTN.out; omega) tx HHS.out f m' HMG.out HTX.out).mono ?_
              rintro e w3 ⟨rfl, v3, hT3⟩
              have hB3 := hT3.blk (HB.out.keeps HE2.out (fun h => h)) HLN.out.1 HOW.out
              have HOW3 := Lib.hid (show v3.ownBlock ≠ some L from fun e => by
                rcases hT3.sub L e with e | e
                · exact HOW.out e
                · have := HB.out.lt; have := HE2.out.size; omega)
              have HT3 := Lib.hid (HT2.out.trans hT3)
              clear hT3 HE2 HT2
              unfold NodeT.V
              go_wp2_with (refine wpList_fill (vs := m'.cells) rfl rfl rfl rfl hB3 (by rw [HCL.out, HML.out]) (by rw [HML.out]; exact Tryz.szNode) m'.one ?_; intro W8 hB8 hE8)
              go_roundw
              case rel => exact ⟨_, _, v3, rfl, HT3.out.fill hE8 HLN.out.1 HOW3.out HLW.out, HOW3.out, .inl ⟨rfl, f, m, HK2.out.rows, HK2.out.valid, by have := HK2.out.less; have := HC.out.2.2.1; omega, by have h9 := HC.out.2.2.2.1; rw [HWY.out] at h9; rw [List.append_assoc]; exact h9, by rw [HK2.out.find]; exact HC.out.2.2.2.2.1, by rw [← HMM.out]; exact hB8, fun x hx h32 => HC.out.2.2.2.2.2 x (HK2.out.flat x hx h32) h32⟩⟩
              case measure => have h9 := HK2.out.less; simp only [foM, strSz]; omega
            · have q0' : wr.cell? ⟨L, 0, none⟩ = some (.int .i64 3) := q0
              obtain ⟨h0, hx0⟩ := first_is hx
              have hx16 : x.toNat < 16 := nib_lt (p := (p, p)) HC.out.2.1 hx
              have q3 := Q3.out _ _ hr
              rw [← hx0] at q3 hx16
              have hpe : p.toList.isEmpty = false := by
                rw [Bool.eq_false_iff]
                intro e
                rw [List.isEmpty_iff, ByteArray.toList_eq] at e
                rw [hx] at e; cases e
              have c1 : (0 : Int) < (p.size : Int) := by omega
              have c2 : ((p[0]'h0).toNat : Int) < 16 := by omega
              have c3 : (1 : Int) ≤ (p.size : Int) := by omega
              clear q0 hx hr hx0
              go_wp2_with fail
              go_quiet (fail)
              go_wp2_with fail
              refine (hash_c _ rt qh HRZ.out HH.out.1).mono ?_
              rintro e w2 ⟨rfl, hE⟩
              rw [HH.out.2]
              have HE2 : Hid (Ext wr w2) := Lib.hid (by first | exact hE | exact (drewNE _ _).trans hE)
              have HT2 := Lib.hid (HT.out.ext HE2.out)
              clear hE
              unfold optV
              go_wp2_with fail
              refine (at8_c w0 w2 s bm room S HS.out (HE.out.trans HE2.out) g v' T HT2.out.at' (by have := HTN.out; omega) tx HHS.out f m' HMG.out HTX.out).mono ?_
              rintro e w3 ⟨rfl, v3, hT3⟩
              have hB3 := hT3.blk (HB.out.keeps HE2.out (fun h => h)) HLN.out.1 HOW.out
              have HOW3 := Lib.hid (show v3.ownBlock ≠ some L from fun e => by
                rcases hT3.sub L e with e | e
                · exact HOW.out e
                · have := HB.out.lt; have := HE2.out.size; omega)
              have HT3 := Lib.hid (HT2.out.trans hT3)
              clear hT3 HE2 HT2
              unfold NodeT.V
              go_wp2_with (refine wpList_fill (vs := m'.cells) rfl rfl rfl rfl hB3 (by rw [HCL.out, HML.out]) (by rw [HML.out]; exact Tryz.szNode) m'.one ?_; intro W8 hB8 hE8)
              go_roundw
              case rel => exact ⟨_, _, v3, rfl, HT3.out.fill hE8 HLN.out.1 HOW3.out HLW.out, HOW3.out, .inl ⟨rfl, f, m, HK2.out.rows, HK2.out.valid, by have := HK2.out.less; have := HC.out.2.2.1; omega, by have h9 := HC.out.2.2.2.1; rw [HWY.out] at h9; rw [List.append_assoc]; exact h9, by rw [HK2.out.find]; exact HC.out.2.2.2.2.1, by rw [← HMM.out]; exact hB8, fun x hx h32 => HC.out.2.2.2.2.2 x (HK2.out.flat x hx h32) h32⟩⟩
              case measure => have h9 := HK2.out.less; simp only [foM, strSz]; omega
end
end Go.Proofs.YtllbcjclibbogaaGreatDoor
/- trie: Path; proof: Build. -/
namespace Go.Proofs.YtllbcjclibbogaaGreatDoor
section
open Go Go.RowKit
set_option linter.unusedSimpArgs false
set_option linter.unusedVariables false
attribute [local go_sem] Oper.semAt_some
/-- The nodes on the way to a key of a map: what Build answers. -/
def wayN (l : List Pair) (key : ByteArray) : List ByteArray := (trieT l).text :: wayL 12 (rowsL l) (pathB key)
def PathP (N : List ByteArray) (w : World) (e : Ending) (w' : World) : Prop := ∃ a c, e = .returned (.tuple #[.slice a N.length c, .int .i64 0]) ∧ SRow w w' (.slice a N.length c) N.length N
theorem ORow.since {T : TypeId} {sz : Nat} {w0 w1 w : World} {v : Value} {n : Nat} {xs : List Value} (h : ORow T sz w1 w v n xs) (e : Ext w0 w1) : ORow T sz w0 w v n xs := ⟨h.sl, h.own, e.trans h.ext, fun b hb => Nat.le_trans e.size (h.new b hb)⟩
set_option maxRecDepth 100000 in
set_option maxHeartbeats 8000000 in
theorem path8_c (W : World) (s bm : Nat) (room : Int) (S : List Nd5) (hs : StoreAt W s bm room S) (l : List Pair) (hM : HasM S l) (key : ByteArray) (hk : key.size ≤ 1000) :
    Calls Tryz.prog 48 #[.pointer (some ⟨s, 0, none⟩), .string (shaB (trieT l).text), .string key] W (PathP (wayN l key) W) := by
  obtain ⟨k0, hk0⟩ : ∃ k, k = shaB (trieT l).text := ⟨_, rfl⟩
  have HK0 := Lib.hid hk0
  have HS := Lib.hid hs
  have HM := Lib.hid hM
  have HK := Lib.hid hk
  obtain ⟨N, hN⟩ : ∃ N, N = wayN l key := ⟨_, rfl⟩
  have HN := Lib.hid hN
  rw [← hk0, ← hN]
  clear hk0 hs hM hk hN
  go_enter Tryz.func48, Tryz.ntmps48
  go_wp2_with fail
  have hE : Ext W (W.alloc (.cells #[.slice none 0 0] 29)) := (ExtR W).alloc _
  have hB := Blk.new W (.cells #[.slice none 0 0] 29)
  have hM0 : MetAt W.heap.size W.heap.size (.slice none 0 0) [] (W.alloc (.cells #[.slice none 0 0] 29)) := ⟨Nat.le_refl _, hB, ⟨0, rfl, .inl ⟨rfl, rfl⟩⟩, fun b hb => by cases hb⟩
  have hF := follow8_c W _ s bm room S HS.out hE W.heap.size (.slice none 0 0) hM0 l HM.out key HK.out
  rw [← HK0.out] at hF
  have HM0 := Lib.hid hM0
  have HE := Lib.hid hE
  obtain ⟨V, hV⟩ : ∃ V, V = valL (rowsL l) (pathB key) := ⟨_, rfl⟩
  rw [← hV] at hF
  clear hB hM0 hE hV
  refine hF.mono ?_
  rintro e w2 ⟨rfl, v', hT⟩
  have HT := Lib.hid hT
  obtain ⟨n, hn⟩ := hT.at'.row
  have hn2 : n = (wayN l key).length := by have := hn.1; simpa [wayN] using this.symm
  subst hn2
  obtain ⟨a, c, hv'⟩ := row_slice hn
  have q := hT.at'.var.cell (i := 0) (v := v') (by rfl)
  have HO := Lib.hid hn
  have hfin : SRow W w2 v' (wayN l key).length (wayN l key) := ⟨⟨a, c, hv'⟩, hn, hT.ext0 HM0.out HE.out (Nat.le_refl _), fun b hb => (hT.at'.own b hb).1⟩
  have HF := Lib.hid hfin
  subst hv'
  rw [← HN.out] at q HF
  clear hF hT hn hfin HO HT
  cases V with
  | none =>
    unfold folV
    go_wp2_with fail
    go_ret2
    exact ⟨_, _, rfl, HF.out⟩
  | some u =>
    unfold folV
    go_wp2_with fail
    go_ret2
    exact ⟨_, _, rfl, HF.out⟩
set_option maxRecDepth 100000 in
set_option maxHeartbeats 8000000 in
theorem build11_c (W : World) (s bm : Nat) (room : Int) (S : List Nd5) (hs : StoreAt W s bm room S) (l : List Pair) (hM : HasM S l) (key : ByteArray) (hk : key.size ≤ 1000) :
    Calls Tryz.prog 20 #[.pointer (some ⟨s, 0, none⟩), .string (shaB (trieT l).text), .string key] W (PathP (wayN l key) W) := by
  obtain ⟨y, hy1, hy2⟩ := hM.has _ (text_mem _)
  have hsg := sget_c W s bm room S (shaB (trieT l).text) hs
  have hy1 : atL S (shaB (trieT l).text).data.toList = some y := hy1
  rw [hy1] at hsg
  simp only [Option.map_some, optV] at hsg
  have HSG := Lib.hid hsg
  obtain ⟨N, hN⟩ : ∃ N, N = wayN l key := ⟨_, rfl⟩
  have HP := Lib.hid (fun w (e : Ext W w) => path8_c w s bm room S (hs.ext e) l hM key hk)
  obtain ⟨k0, hk0⟩ : ∃ k, k = shaB (trieT l).text := ⟨_, rfl⟩
  rw [← hk0, ← hN] at HP
  rw [← hk0] at HSG ⊢
  rw [← hN]
  clear hk0 hs hM hk hsg hy1 hy2 hN
  go_enter Tryz.func20, Tryz.ntmps20
  go_wp2_with fail
  refine HSG.out.mono ?_
  rintro e w1 ⟨rfl, hE⟩
  have HE := Lib.hid hE
  clear hE
  go_wp2_with fail
  refine (HP.out w1 HE.out).mono ?_
  rintro e w2 ⟨a, c, rfl, hR⟩
  have HR := Lib.hid hR
  clear hR
  go_wp2_with fail
  go_ret2
  exact ⟨_, _, rfl, HR.out.since HE.out⟩
set_option maxRecDepth 100000 in
set_option maxHeartbeats 8000000 in
theorem build11_no (W : World) (s bm : Nat) (room : Int) (S : List Nd5) (hs : StoreAt W s bm room S) (root key : ByteArray) (hH : atL S root.data.toList = none) :
    Calls Tryz.prog 20 #[.pointer (some ⟨s, 0, none⟩), .string root, .string key] W fun e w' => e = .returned (.tuple #[.slice none 0 0, .int .i64 4]) ∧ Ext W w' := by
  have hsg := sget_c W s bm room S root hs
  rw [hH] at hsg
  simp only [Option.map_none, optV] at hsg
  have HSG := Lib.hid hsg
  clear hs hsg hH
  go_enter Tryz.func20, Tryz.ntmps20
  go_wp2_with fail
  refine HSG.out.mono ?_
  rintro e w1 ⟨rfl, hE⟩
  have HE := Lib.hid hE
  clear hE
  go_wp2_with fail
  go_ret2
  exact ⟨rfl, HE.out⟩
end
end Go.Proofs.YtllbcjclibbogaaGreatDoor
/- proof: fail, take. -/
namespace Go.Proofs.YtllbcjclibbogaaGreatDoor
section
open Go Go.RowKit
set_option linter.unusedSimpArgs false
set_option linter.unusedVariables false
attribute [local go_sem] Oper.semAt_some
def prfE : Value := .iface 25 (.int .i64 10)
/-- The error of a node that is wrong, made since. -/
def ErrW (z : Nat) (W : World) (v : Value) : Prop := ∃ (b : Nat) (k : Int), v = .iface 139 (.pointer (some ⟨b, 0, none⟩)) ∧ Blk W b (.cells #[.int .i64 k, prfE] 141) ∧ z ≤ b
theorem ErrW.ext {z : Nat} {W W' : World} {v : Value} (h : ErrW z W v) (e : Ext W W') : ErrW z W' v := by
  obtain ⟨b, k, h1, h2, h3⟩ := h
  exact ⟨b, k, h1, h2.keeps e (fun h => h), h3⟩
/-- What is met by a proof, in memory. -/
def WayAt (W : World) (wb : Nat) (root : ByteArray) (v : Value) (u : Nat) (ev : Value) : Prop := Blk W wb (.cells #[.string root, v, .int .i64 (u : Int), ev] 143)
def FailP (W : World) (wb : Nat) (root : ByteArray) (v : Value) (u : Nat) (e : Ending) (w' : World) : Prop := e = .returned (.tuple #[]) ∧ ∃ ev, ErrW W.heap.size w' ev ∧ WayAt w' wb root v u ev ∧ Keeps (fun b => b = wb) W w'
set_option maxRecDepth 100000 in
set_option maxHeartbeats 4000000 in
theorem fail_c (W : World) (wb : Nat) (root : ByteArray) (v : Value) (u : Nat) (ev : Value) (h : WayAt W wb root v u ev) :
    Calls Tryz.prog 89 #[.pointer (some ⟨wb, 0, none⟩)] W (FailP W wb root v u) := by
  unfold WayAt at h
  have q2 := h.cell (i := 2) (v := .int .i64 (u : Int)) (by rfl)
  have hlt := h.lt
  have hne : W.heap.size ≠ wb := by omega
  have hB := Blk.new W (.cells #[.int .i64 (u : Int), prfE] 141)
  have hA := h.alloc (.cells #[.int .i64 (u : Int), prfE] 141)
  have f3 : (W.alloc (.cells #[.int .i64 (u : Int), prfE] 141)).frozen? ⟨wb, 3, none⟩ = false := hA.frozen
  have q3 := hA.cell (i := 3) (v := ev) (by rfl)
  unfold prfE at f3 q3
  have HB := Lib.hid hB
  have HA := Lib.hid hA
  have HN := Lib.hid hne
  clear h hB hA hlt hne
  go_enter Tryz.func89, Tryz.ntmps89
  go_wp2_with fail
  refine bodyPost_end (results_none rfl _ _ _) rfl ?_
  refine ⟨rfl, .iface 139 (.pointer (some ⟨W.heap.size, 0, none⟩)), ⟨W.heap.size, u, rfl, HB.out.set_other (p := ⟨wb, 3, none⟩) (by exact HN.out) _, Nat.le_refl _⟩, HA.out.set_same (i := 3) _, ?_⟩
  exact (((ExtR W).alloc _).mono (fun _ _ h => h.elim) : Keeps (fun b => b = wb) W _).trans (Keeps.oneSet _ ⟨wb, 3, none⟩ _)
end
end Go.Proofs.YtllbcjclibbogaaGreatDoor
/- errors.As, its parts: reflectlite's values. -/
namespace Go.Proofs.YtllbcjclibbogaaGreatDoor
section
open Go Go.RowKit
set_option linter.unusedSimpArgs false
set_option linter.unusedVariables false
attribute [local go_sem] Oper.semAt_some
end
end Go.Proofs.YtllbcjclibbogaaGreatDoor
/- errors.As, its parts: what reflectlite reads and writes. -/
namespace Go.Proofs.YtllbcjclibbogaaGreatDoor
section
open Go Go.RowKit
set_option linter.unusedSimpArgs false
set_option linter.unusedVariables false
attribute [local go_sem] Oper.semAt_some
end
end Go.Proofs.YtllbcjclibbogaaGreatDoor
/- errors.As, its parts: Set. -/
namespace Go.Proofs.YtllbcjclibbogaaGreatDoor
section
open Go Go.RowKit
set_option linter.unusedSimpArgs false
set_option linter.unusedVariables false
attribute [local go_sem] Oper.semAt_some
theorem Tryz.partsN (a : Nat) : ∀ w, (Extern.ReflectliteValue.parts (.agg #[.pointer (some ⟨3, 25, none⟩), .pointer (some ⟨a, 0, none⟩), .int .u64 130])).run Tryz.prog w = .ok (some (25, ⟨a, 0, none⟩, 130)) w := fun w => by kernel_rfl
end
end Go.Proofs.YtllbcjclibbogaaGreatDoor
/- errors.as: a fault, to a place. -/
namespace Go.Proofs.YtllbcjclibbogaaGreatDoor
section
open Go Go.RowKit
set_option linter.unusedSimpArgs false
set_option linter.unusedVariables false
end
end Go.Proofs.YtllbcjclibbogaaGreatDoor
/- errors.as: a fault, to a place. -/
namespace Go.Proofs.YtllbcjclibbogaaGreatDoor
section
open Go Go.RowKit
set_option linter.unusedSimpArgs false
set_option linter.unusedVariables false
attribute [local go_sem] Oper.semAt_some
end
end Go.Proofs.YtllbcjclibbogaaGreatDoor
/- errors.as: a fault's errno. -/
namespace Go.Proofs.YtllbcjclibbogaaGreatDoor
section
open Go Go.RowKit
set_option linter.unusedSimpArgs false
set_option linter.unusedVariables false
attribute [local go_sem] Oper.semAt_some
/-- A fault that holds a fault. -/
def Fa2 (W : World) (b : Nat) : Prop := ∃ (c : Nat) (k l : Int), Blk W b (.cells #[.int .i64 k, .iface 225 (.pointer (some ⟨c, 0, none⟩))] 227) ∧ Blk W c (.cells #[.int .i64 l, malE] 227)
end
end Go.Proofs.YtllbcjclibbogaaGreatDoor
/- errors.As: a fault, to a place. -/
namespace Go.Proofs.YtllbcjclibbogaaGreatDoor
section
open Go Go.RowKit
set_option linter.unusedSimpArgs false
set_option linter.unusedVariables false
attribute [local go_sem] Oper.semAt_some
end
end Go.Proofs.YtllbcjclibbogaaGreatDoor
/- errors.As: the errno of a fault that holds a fault. -/
namespace Go.Proofs.YtllbcjclibbogaaGreatDoor
section
open Go Go.RowKit
set_option linter.unusedSimpArgs false
set_option linter.unusedVariables false
attribute [local go_sem] Oper.semAt_some
/-- What the laid variable errors.errorType is. -/
def ErrT (w : World) : Prop := w.cell? ⟨1, 0, none⟩ = some (.iface 180 (.agg #[.pointer (some ⟨3, 92, none⟩)]))
theorem ErrT.ext {w w' : World} (h : ErrT w) (k : Ext w w') : ErrT w' := cell_ext h k
theorem Fa2.ext {w w' : World} {b : Nat} (h : Fa2 w b) (k : Ext w w') : Fa2 w' b := by
  obtain ⟨c, x, y, h1, h2⟩ := h
  exact ⟨c, x, y, h1.keeps k (fun h => h), h2.keeps k (fun h => h)⟩
end
end Go.Proofs.YtllbcjclibbogaaGreatDoor
/- proof: take. -/
namespace Go.Proofs.YtllbcjclibbogaaGreatDoor
section
open Go Go.RowKit
set_option linter.unusedSimpArgs false
set_option linter.unusedVariables false
attribute [local go_sem] Oper.semAt_some
/-- The next node of a proof, which must have a hash. -/
noncomputable def takeN (nodes : List ByteArray) (u : Nat) (hash : ByteArray) : Option NodeT := match nodes[u]? with | none => none | some t => if shaB t = hash then getN t else none
/-- Each text is a node, or refused. -/
def GetAll (W0 : World) (nodes : List ByteArray) : Prop := ∀ t ∈ nodes, (∃ n, IsNode t n) ∨ (ErrT W0 ∧ ∀ w, ErrT w → Calls Tryz.prog 25 #[.string t] w (GetNo w))
theorem GetAll.ext {W0 W : World} {nodes : List ByteArray} (h : GetAll W0 nodes) (e : Ext W0 W) : GetAll W nodes := fun t ht => (h t ht).imp id fun h => ⟨h.1.ext e, h.2⟩
theorem get_all {W0 : World} {nodes : List ByteArray} (h : GetAll W0 nodes) {t : ByteArray} (ht : t ∈ nodes) : ∃ (m : NodeT) (c : Int), m.refs.length = 16 ∧ (∀ w, Ext W0 w → Calls Tryz.prog 25 #[.string t] w fun e w' => e = .returned (.tuple #[m.V, .int .i64 c]) ∧ Ext w w') ∧ ((c = 0 ∧ getN t = some m) ∨ (c = 2 ∧ getN t = none)) := by
  by_cases hn : ∃ n, IsNode t n
  · obtain ⟨n, hn'⟩ := hn
    have hi := nodeOf_is hn'
    obtain ⟨h1, f, h2⟩ := hi
    refine ⟨nodeOf t, 0, (h2.one (inlP f)).refs, fun w _ => ?_, .inl ⟨rfl, by unfold getN; rw [if_pos ⟨n, hn'⟩]⟩⟩
    have := get_c4 (inlP f) w (nodeOf t) h2
    rwa [← h1] at this
  · refine ⟨emptyN, 2, rfl, fun w e => ?_, .inr ⟨rfl, getN_no hn⟩⟩
    rcases h t ht with h | h
    · exact absurd h hn
    · exact h.2 w (h.1.ext e)
theorem Tryz.enterOf11 : ∀ args w, (callFunc 26 args).run Tryz.prog w = .ok (.enter 26 args) w := fun _ _ => by kernel_rfl
theorem Tryz.enterGet11 : ∀ args w, (callFunc 25 args).run Tryz.prog w = .ok (.enter 25 args) w := fun _ _ => by kernel_rfl
theorem wp_new1 {P : Program} {o : Oper} {a : Act} {w : World} {K : Act → World → Prop} {Q : Exit → Act → World → Prop} {T : TypeId} {cs : List Value} (hrun : ∀ w, (Instr.alloc T true (.tuple #[])).run P w = .ok (.pointer (some ⟨w.heap.size, 0, none⟩)) (w.alloc (.cells cs.toArray T))) (ho : o.op = .alloc T)
    (h : ∀ W, Blk W w.heap.size (.cells cs.toArray T) → Ext w W → K (a.put o.dst (.pointer (some ⟨w.heap.size, 0, none⟩))) W) : o.wp P a w K Q :=
  wp_value (v := .pointer (some ⟨w.heap.size, 0, none⟩)) (w' := w.alloc (.cells cs.toArray T)) (by simp only [execOp, ho, Sem.run_bind, hrun, Result.andThen, Sem.run_pure]) (h _ (Blk.new w _) ((ExtR w).alloc _))
/-- What a proof rests on: the hash's constants, the nodes; made ahead of its way. -/
structure PrB (W0 W : World) (wb : Nat) (v : Value) (nodes : List ByteArray) : Prop where
  cubes : Cubes W0
  rd : RdS W0 v nodes
  ext : Ext W0 W
  lo : W0.heap.size ≤ wb
  few : nodes.length ≤ 1000000
  get : GetAll W0 nodes
theorem PrB.mono {W0 W W' : World} {wb : Nat} {v : Value} {nodes : List ByteArray} (h : PrB W0 W wb v nodes) (e : Keeps (fun b => b = wb) W W') : PrB W0 W' wb v nodes :=
  ⟨h.cubes, h.rd, h.ext.trans' e (fun x hx y => by have y : x = wb := y; have := h.lo; omega), h.lo, h.few, h.get⟩
theorem PrB.grow {W0 W W' : World} {wb : Nat} {v : Value} {nodes : List ByteArray} (h : PrB W0 W wb v nodes) (e : Ext W W') : PrB W0 W' wb v nodes := h.mono (e.mono (fun _ _ h => h.elim))
def TakeP (W : World) (wb : Nat) (root : ByteArray) (v : Value) (u : Nat) (ev : Value) (r : Option NodeT) (e : Ending) (w' : World) : Prop :=
  Keeps (fun b => b = wb) W w' ∧ match r with
    | some n => e = .returned (.tuple #[n.V, .bool true]) ∧ WayAt w' wb root v (u + 1) ev ∧ n.refs.length = 16
    | none => e = .returned (.tuple #[emptyN.V, .bool false]) ∧ ∃ ev', ErrW W.heap.size w' ev' ∧ WayAt w' wb root v u ev'
theorem ExtK {F : BSet} {a b : World} (h : Ext a b) : Keeps F a b := h.mono (fun _ _ h => h.elim)
set_option maxRecDepth 100000 in
set_option maxHeartbeats 8000000 in
theorem take_end (W0 W : World) (wb : Nat) (root : ByteArray) (v : Value) (nodes : List ByteArray) (u : Nat) (ev : Value) (hash : ByteArray) (hB : PrB W0 W wb v nodes) (hW : WayAt W wb root v u ev) (hu : nodes[u]? = none) (hu2 : u ≤ 1000000) :
    Calls Tryz.prog 123 #[.pointer (some ⟨wb, 0, none⟩), .string hash] W (TakeP W wb root v u ev none) := by
  obtain ⟨a, c, hv⟩ : ∃ a c, v = .slice a nodes.length c := by
    rcases hB.rd with ⟨a, c, h1, h2⟩ | ⟨b, o, c, h1, _⟩
    · exact ⟨a, c, by rw [h1, h2]; rfl⟩
    · exact ⟨_, c, h1⟩
  unfold WayAt at hW
  have hul : nodes.length ≤ u := List.getElem?_eq_none_iff.1 hu
  have q1 := hW.cell (i := 1) (v := v) (by rfl)
  have q2 := hW.cell (i := 2) (v := .int .i64 (u : Int)) (by rfl)
  have HLT := Lib.hid hW.lt
  have HW := Lib.hid hW
  have HB := Lib.hid hB
  obtain ⟨n, hn⟩ : ∃ n, n = nodes.length := ⟨_, rfl⟩
  rw [← hn] at hv hul
  have c1 : (n : Int) ≤ (u : Int) := by omega
  have HV := Lib.hid hv
  clear hB hW hu hn hv
  go_enter Tryz.func123, Tryz.ntmps123
  go_wp2_with (refine wpList_new Tryz.allocNode rfl rfl ?_; intro W1 hB1 hE1)
  have Q1 := Lib.hid (cell_ext q1 hE1)
  have Q2 := Lib.hid (cell_ext q2 hE1)
  have HB1 := Lib.hid hB1
  have HE1 := Lib.hid hE1
  clear hB1 hE1 q1 q2
  rw [HV.out] at Q1
  refine wp_region_mixK [0,1,2,3,4,5,6,7,8,9,10,11,12,13,14,15,16,17,18,19,20,21,22,23,24,25] Ext ExtR ExtT (by kernel_rfl) (by kernel_rfl) (by kernel_rfl) ?_
  iterate 1 (refine mixk_pure _ rfl (by kernel_rfl) rfl rfl (fun K hK => ?_); go_big_quiet_op; refine hK _ ?_; clear hK K)
  refine mixk_val _ (.pointer (some ⟨wb, 0, none⟩)) rfl (by kernel_rfl) rfl (fun w1 _ => by kernel_rfl) ?_
  simp only [Act.put, List.setIfInBounds_toArray, List.set_cons_zero, List.set_cons_succ]
  iterate 1 (refine mixk_pure _ rfl (by kernel_rfl) rfl rfl (fun K hK => ?_); go_big_quiet_op; refine hK _ ?_; clear hK K)
  refine mixk_load ⟨wb, 2, none⟩ (.int .i64 (u : Int)) rfl (by kernel_rfl) rfl rfl (fun w1 h1 => run_load_plain Tryz.underlying3 rfl (cell_ext (by exact Q2.out) h1)) ?_
  simp only [Act.put, List.setIfInBounds_toArray, List.set_cons_zero, List.set_cons_succ]
  iterate 1 (refine mixk_pure _ rfl (by kernel_rfl) rfl rfl (fun K hK => ?_); go_big_quiet_op; refine hK _ ?_; clear hK K)
  refine mixk_val _ (.pointer (some ⟨wb, 0, none⟩)) rfl (by kernel_rfl) rfl (fun w1 _ => by kernel_rfl) ?_
  simp only [Act.put, List.setIfInBounds_toArray, List.set_cons_zero, List.set_cons_succ]
  iterate 1 (refine mixk_pure _ rfl (by kernel_rfl) rfl rfl (fun K hK => ?_); go_big_quiet_op; refine hK _ ?_; clear hK K)
  refine mixk_load ⟨wb, 1, none⟩ (.slice a n c) rfl (by kernel_rfl) rfl rfl (fun w1 h1 => run_load_plain Tryz.underlying29 rfl (cell_ext (by exact Q1.out) h1)) ?_
  simp only [Act.put, List.setIfInBounds_toArray, List.set_cons_zero, List.set_cons_succ]
  iterate 3 (refine mixk_pure _ rfl (by kernel_rfl) rfl rfl (fun K hK => ?_); go_big_quiet_op; refine hK _ ?_; clear hK K)
  iterate 14 (refine mixk_skip _ rfl (by kernel_rfl) rfl ?_; simp only [Act.put, List.setIfInBounds_toArray, List.set_cons_zero, List.set_cons_succ])
  iterate 1 (refine mixk_pure _ rfl (by kernel_rfl) rfl rfl (fun K hK => ?_); go_big_quiet_op; refine hK _ ?_; clear hK K)
  refine mixk_end (by kernel_rfl) (fun w3 h3 => ?_)
  have h13 := (drewE W1).trans h3
  have HB3 := Lib.hid (HB1.out.keeps h13 (fun h => h))
  have HE3 := Lib.hid (HE1.out.trans h13)
  have HW3 := Lib.hid (show WayAt w3 wb root v u ev from Blk.keeps HW.out HE3.out (fun h => h))
  clear h3 h13 HB1 Q1 Q2
  go_wp2_with fail
  refine (fail_c w3 wb root v u ev HW3.out).mono ?_
  rintro e w4 ⟨rfl, ev', hER, hWA, hK⟩
  have hB4 := HB3.out.keeps hK (fun e => by have e : _ = wb := e; have := HLT.out; omega)
  have HR4 := Lib.hid hER
  have HW4 := Lib.hid hWA
  have HK4 := Lib.hid hK
  clear hER hWA hK
  go_wp2_with (refine wpList_fill (vs := emptyN.cells) rfl rfl rfl rfl hB4 rfl Tryz.szNode (NodeT.one _) ?_; intro W8 hB8 hE8)
  refine bodyPost_ret (results_cell_tmp rfl rfl rfl (run_loadVar_api W8 _ emptyN rfl hB8)) rfl ?_
  have hle := HE3.out.size
  refine ⟨((ExtK HE3.out : Keeps (fun b => b = wb) W w3).trans HK4.out).trans' hE8 (fun x hx e => by have e : x = W.heap.size := e; omega), rfl, ev', ?_, ?_⟩
  · obtain ⟨b, k, h1, h2, h3⟩ := HR4.out
    exact ⟨b, k, h1, h2.keeps hE8 (fun e => by have e : b = W.heap.size := e; have := HB3.out.lt; omega), by omega⟩
  · have h9 : WayAt w4 wb root v u ev' := HW4.out
    exact Blk.keeps h9 hE8 (fun e => by have e : wb = W.heap.size := e; have := HLT.out; omega)
set_option maxRecDepth 100000 in
set_option maxHeartbeats 16000000 in
theorem take_at (W0 W : World) (wb : Nat) (root : ByteArray) (v : Value) (nodes : List ByteArray) (u : Nat) (ev : Value) (hash t : ByteArray) (hB : PrB W0 W wb v nodes) (hW : WayAt W wb root v u ev) (hu : nodes[u]? = some t) :
    Calls Tryz.prog 123 #[.pointer (some ⟨wb, 0, none⟩), .string hash] W (TakeP W wb root v u ev (if shaB t = hash then getN t else none)) := by
  have hul : u < nodes.length := (List.getElem?_eq_some_iff.1 hu).1
  have hlm := hB.few
  obtain ⟨b, o, c, hv, hbl, hnc, hcell⟩ : ∃ b o c, v = .slice (some ⟨b, o, none⟩) nodes.length c ∧ b < W0.heap.size ∧ nodes.length ≤ c ∧ ∀ (j : Nat) x, nodes[j]? = some x → W0.cell? ⟨b, o + j, none⟩ = some (.string x) := by
    rcases hB.rd with ⟨a, c, h1, h2⟩ | h
    · rw [h2] at hul; cases hul
    · exact h
  obtain ⟨m, gc, hm, hG, hcase⟩ := get_all hB.get (List.mem_of_getElem? hu)
  unfold WayAt at hW
  have qt := cell_ext (hcell u t hu) hB.ext
  have q1 := hW.cell (i := 1) (v := v) (by rfl)
  have q2 := hW.cell (i := 2) (v := .int .i64 (u : Int)) (by rfl)
  have HLT := Lib.hid hW.lt
  have HW := Lib.hid hW
  have HB := Lib.hid hB
  obtain ⟨n, hn⟩ : ∃ n, n = nodes.length := ⟨_, rfl⟩
  rw [← hn] at hv hul hnc hlm
  have c1 : ¬ (n : Int) ≤ (u : Int) := by omega
  have c2 : (u : Int) < (n : Int) := by omega
  have c3 : (0 : Int) ≤ (u : Int) := by omega
  have c4 : decide (n ≤ u) = false := decide_eq_false (by omega)
  have c5 : (u : Int) ≤ 1000000 := by omega
  have HV := Lib.hid hv
  have HG := Lib.hid hG
  have HCS := Lib.hid hcase
  have HM := Lib.hid hm
  have HUM := Lib.hid (show u ≤ 1000000 by omega)
  have QTW := Lib.hid qt
  have HBL := Lib.hid (show b < W.heap.size ∧ b ≠ wb from ⟨Nat.lt_of_lt_of_le hbl hB.ext.size, by have := hB.lo; omega⟩)
  obtain ⟨sh, hsh⟩ : ∃ sh, sh = shaB t := ⟨_, rfl⟩
  obtain ⟨r, hr⟩ : ∃ r, r = getN t := ⟨_, rfl⟩
  rw [← hr] at HCS ⊢
  clear hr
  have HSH := Lib.hid hsh
  rw [← hsh]
  clear hB hW hu hn hv hul hlm hbl hnc hcell hG hcase hm hsh
  by_cases hs : sh = hash
  case neg =>
    rw [if_neg hs]
    have hsb := toList_ne hs
    go_enter Tryz.func123, Tryz.ntmps123
    go_wp2_with (refine wpList_new Tryz.allocNode rfl rfl ?_; intro W1 hB1 hE1)
    have Q1 := Lib.hid (cell_ext q1 hE1)
    have Q2 := Lib.hid (cell_ext q2 hE1)
    have QT := Lib.hid (cell_ext qt hE1)
    have HB1 := Lib.hid hB1
    have HE1 := Lib.hid hE1
    clear hB1 hE1 q1 q2 qt
    rw [HV.out] at Q1
    refine wp_region_mixK [0,1,2,3,4,5,6,7,8,9,10,11,12,13,14,15,16,17,18,19,20,23,21,22,24,25] Ext ExtR ExtT (by kernel_rfl) (by kernel_rfl) (by kernel_rfl) ?_
    iterate 1 (refine mixk_pure _ rfl (by kernel_rfl) rfl rfl (fun K hK => ?_); go_big_quiet_op; refine hK _ ?_; clear hK K)
    refine mixk_val _ (.pointer (some ⟨wb, 0, none⟩)) rfl (by kernel_rfl) rfl (fun w1 _ => by kernel_rfl) ?_
    simp only [Act.put, List.setIfInBounds_toArray, List.set_cons_zero, List.set_cons_succ]
    iterate 1 (refine mixk_pure _ rfl (by kernel_rfl) rfl rfl (fun K hK => ?_); go_big_quiet_op; refine hK _ ?_; clear hK K)
    refine mixk_load ⟨wb, 2, none⟩ (.int .i64 (u : Int)) rfl (by kernel_rfl) rfl rfl (fun w1 h1 => run_load_plain Tryz.underlying3 rfl (cell_ext (by exact Q2.out) h1)) ?_
    simp only [Act.put, List.setIfInBounds_toArray, List.set_cons_zero, List.set_cons_succ]
    iterate 1 (refine mixk_pure _ rfl (by kernel_rfl) rfl rfl (fun K hK => ?_); go_big_quiet_op; refine hK _ ?_; clear hK K)
    refine mixk_val _ (.pointer (some ⟨wb, 0, none⟩)) rfl (by kernel_rfl) rfl (fun w1 _ => by kernel_rfl) ?_
    simp only [Act.put, List.setIfInBounds_toArray, List.set_cons_zero, List.set_cons_succ]
    iterate 1 (refine mixk_pure _ rfl (by kernel_rfl) rfl rfl (fun K hK => ?_); go_big_quiet_op; refine hK _ ?_; clear hK K)
    refine mixk_load ⟨wb, 1, none⟩ (.slice (some ⟨b, o, none⟩) n c) rfl (by kernel_rfl) rfl rfl (fun w1 h1 => run_load_plain Tryz.underlying29 rfl (cell_ext (by exact Q1.out) h1)) ?_
    simp only [Act.put, List.setIfInBounds_toArray, List.set_cons_zero, List.set_cons_succ]
    iterate 4 (refine mixk_pure _ rfl (by kernel_rfl) rfl rfl (fun K hK => ?_); go_big_quiet_op; refine hK _ ?_; clear hK K)
    refine mixk_val _ (.pointer (some ⟨wb, 0, none⟩)) rfl (by kernel_rfl) rfl (fun w1 _ => by kernel_rfl) ?_
    simp only [Act.put, List.setIfInBounds_toArray, List.set_cons_zero, List.set_cons_succ]
    iterate 1 (refine mixk_pure _ rfl (by kernel_rfl) rfl rfl (fun K hK => ?_); go_big_quiet_op; refine hK _ ?_; clear hK K)
    refine mixk_load ⟨wb, 1, none⟩ (.slice (some ⟨b, o, none⟩) n c) rfl (by kernel_rfl) rfl rfl (fun w1 h1 => run_load_plain Tryz.underlying29 rfl (cell_ext (by exact Q1.out) h1)) ?_
    simp only [Act.put, List.setIfInBounds_toArray, List.set_cons_zero, List.set_cons_succ]
    iterate 1 (refine mixk_pure _ rfl (by kernel_rfl) rfl rfl (fun K hK => ?_); go_big_quiet_op; refine hK _ ?_; clear hK K)
    refine mixk_val _ (.pointer (some ⟨wb, 0, none⟩)) rfl (by kernel_rfl) rfl (fun w1 _ => by kernel_rfl) ?_
    simp only [Act.put, List.setIfInBounds_toArray, List.set_cons_zero, List.set_cons_succ]
    iterate 1 (refine mixk_pure _ rfl (by kernel_rfl) rfl rfl (fun K hK => ?_); go_big_quiet_op; refine hK _ ?_; clear hK K)
    refine mixk_load ⟨wb, 2, none⟩ (.int .i64 (u : Int)) rfl (by kernel_rfl) rfl rfl (fun w1 h1 => run_load_plain Tryz.underlying3 rfl (cell_ext (by exact Q2.out) h1)) ?_
    simp only [Act.put, List.setIfInBounds_toArray, List.set_cons_zero, List.set_cons_succ]
    iterate 1 (refine mixk_pure _ rfl (by kernel_rfl) rfl rfl (fun K hK => ?_); go_big_quiet_op; refine hK _ ?_; clear hK K)
    refine mixk_load ⟨b, o + u, none⟩ (.string t) rfl (by kernel_rfl) rfl rfl (fun w1 h1 => run_load_plain Tryz.underlying9 rfl (cell_ext (by exact QT.out) h1)) ?_
    simp only [Act.put, List.setIfInBounds_toArray, List.set_cons_zero, List.set_cons_succ]
    iterate 1 (refine mixk_pure _ rfl (by kernel_rfl) rfl rfl (fun K hK => ?_); go_big_quiet_op; refine hK _ ?_; clear hK K)
    refine mixk_hard _ rfl (by kernel_rfl) rfl (fun w2 h2 K hK => ?_)
    have HX2 := Lib.hid (show Ext W1 w2 from (drewE W1).trans h2)
    have HRL := Lib.hid (rds_lit w2 [t] 9)
    clear h2
    go_simp
    refine hK _ _ ((ExtR w2).alloc _) ?_
    clear hK K
    have HX2' := Lib.hid (show Ext W1 (w2.alloc (.cells #[.string t] 9)) from HX2.out.trans ((ExtR w2).alloc _))
    refine mixk_call _ 26 _ (.string (shaB (catB [t]))) rfl (by kernel_rfl) rfl (fun w1 => exec_call Tryz.enterOf11 (by kernel_rfl)) (fun w4 h4 => of_t w4 _ [t] (by simp) (HRL.out.ext (by exact h4)) (HB.out.cubes.ext (HB.out.ext.trans (HE1.out.trans (HX2'.out.trans h4))))) ?_
    rw [catB_one, ← HSH.out]
    simp only [Act.put, List.setIfInBounds_toArray, List.set_cons_zero, List.set_cons_succ]
    iterate 2 (refine mixk_pure _ rfl (by kernel_rfl) rfl rfl (fun K hK => ?_); go_big_quiet_op; refine hK _ ?_; clear hK K)
    refine mixk_end (by kernel_rfl) (fun w3 h3 => ?_)
    have h13 := HX2'.out.trans h3
    have HB3 := Lib.hid (HB1.out.keeps h13 (fun h => h))
    have HE3 := Lib.hid (HE1.out.trans h13)
    have HW3 := Lib.hid (show WayAt w3 wb root v u ev from Blk.keeps HW.out HE3.out (fun h => h))
    clear h3 h13 HB1 Q1 Q2 QT HX2 HX2' HRL
    go_wp2_with fail
    refine (fail_c w3 wb root v u ev HW3.out).mono ?_
    rintro e w4 ⟨rfl, ev', hER, hWA, hK⟩
    have hB4 := HB3.out.keeps hK (fun e => by have e : _ = wb := e; have := HLT.out; omega)
    have HR4 := Lib.hid hER
    have HW4 := Lib.hid hWA
    have HK4 := Lib.hid hK
    clear hER hWA hK
    go_wp2_with (refine wpList_fill (vs := emptyN.cells) rfl rfl rfl rfl hB4 rfl Tryz.szNode (NodeT.one _) ?_; intro W8 hB8 hE8)
    refine bodyPost_ret (results_cell_tmp rfl rfl rfl (run_loadVar_api W8 _ emptyN rfl hB8)) rfl ?_
    have hle := HE3.out.size
    refine ⟨((ExtK HE3.out : Keeps (fun b => b = wb) W w3).trans HK4.out).trans' hE8 (fun x hx e => by have e : x = W.heap.size := e; omega), rfl, ev', ?_, ?_⟩
    · obtain ⟨b, k, h1, h2, h3⟩ := HR4.out
      exact ⟨b, k, h1, h2.keeps hE8 (fun e => by have e : b = W.heap.size := e; have := HB3.out.lt; omega), by omega⟩
    · have h9 : WayAt w4 wb root v u ev' := HW4.out
      exact Blk.keeps h9 hE8 (fun e => by have e : wb = W.heap.size := e; have := HLT.out; omega)
  case pos =>
    subst hs
    rw [if_pos rfl]
    have hsb : (sh.toList == sh.toList) = true := by simp
    go_enter Tryz.func123, Tryz.ntmps123
    go_wp2_with (refine wpList_new Tryz.allocNode rfl rfl ?_; intro W1 hB1 hE1)
    have Q1 := Lib.hid (cell_ext q1 hE1)
    have Q2 := Lib.hid (cell_ext q2 hE1)
    have QT := Lib.hid (cell_ext qt hE1)
    have HB1 := Lib.hid hB1
    have HE1 := Lib.hid hE1
    clear hB1 hE1 q1 q2 qt
    rw [HV.out] at Q1
    refine wp_region_mixK [0,1,2,3,4,5,6,7,8,9,10,11,12,13,14,15,16,17,18,19,20,23,21,22,24,25] Ext ExtR ExtT (by kernel_rfl) (by kernel_rfl) (by kernel_rfl) ?_
    iterate 1 (refine mixk_pure _ rfl (by kernel_rfl) rfl rfl (fun K hK => ?_); go_big_quiet_op; refine hK _ ?_; clear hK K)
    refine mixk_val _ (.pointer (some ⟨wb, 0, none⟩)) rfl (by kernel_rfl) rfl (fun w1 _ => by kernel_rfl) ?_
    simp only [Act.put, List.setIfInBounds_toArray, List.set_cons_zero, List.set_cons_succ]
    iterate 1 (refine mixk_pure _ rfl (by kernel_rfl) rfl rfl (fun K hK => ?_); go_big_quiet_op; refine hK _ ?_; clear hK K)
    refine mixk_load ⟨wb, 2, none⟩ (.int .i64 (u : Int)) rfl (by kernel_rfl) rfl rfl (fun w1 h1 => run_load_plain Tryz.underlying3 rfl (cell_ext (by exact Q2.out) h1)) ?_
    simp only [Act.put, List.setIfInBounds_toArray, List.set_cons_zero, List.set_cons_succ]
    iterate 1 (refine mixk_pure _ rfl (by kernel_rfl) rfl rfl (fun K hK => ?_); go_big_quiet_op; refine hK _ ?_; clear hK K)
    refine mixk_val _ (.pointer (some ⟨wb, 0, none⟩)) rfl (by kernel_rfl) rfl (fun w1 _ => by kernel_rfl) ?_
    simp only [Act.put, List.setIfInBounds_toArray, List.set_cons_zero, List.set_cons_succ]
    iterate 1 (refine mixk_pure _ rfl (by kernel_rfl) rfl rfl (fun K hK => ?_); go_big_quiet_op; refine hK _ ?_; clear hK K)
    refine mixk_load ⟨wb, 1, none⟩ (.slice (some ⟨b, o, none⟩) n c) rfl (by kernel_rfl) rfl rfl (fun w1 h1 => run_load_plain Tryz.underlying29 rfl (cell_ext (by exact Q1.out) h1)) ?_
    simp only [Act.put, List.setIfInBounds_toArray, List.set_cons_zero, List.set_cons_succ]
    iterate 4 (refine mixk_pure _ rfl (by kernel_rfl) rfl rfl (fun K hK => ?_); go_big_quiet_op; refine hK _ ?_; clear hK K)
    refine mixk_val _ (.pointer (some ⟨wb, 0, none⟩)) rfl (by kernel_rfl) rfl (fun w1 _ => by kernel_rfl) ?_
    simp only [Act.put, List.setIfInBounds_toArray, List.set_cons_zero, List.set_cons_succ]
    iterate 1 (refine mixk_pure _ rfl (by kernel_rfl) rfl rfl (fun K hK => ?_); go_big_quiet_op; refine hK _ ?_; clear hK K)
    refine mixk_load ⟨wb, 1, none⟩ (.slice (some ⟨b, o, none⟩) n c) rfl (by kernel_rfl) rfl rfl (fun w1 h1 => run_load_plain Tryz.underlying29 rfl (cell_ext (by exact Q1.out) h1)) ?_
    simp only [Act.put, List.setIfInBounds_toArray, List.set_cons_zero, List.set_cons_succ]
    iterate 1 (refine mixk_pure _ rfl (by kernel_rfl) rfl rfl (fun K hK => ?_); go_big_quiet_op; refine hK _ ?_; clear hK K)
    refine mixk_val _ (.pointer (some ⟨wb, 0, none⟩)) rfl (by kernel_rfl) rfl (fun w1 _ => by kernel_rfl) ?_
    simp only [Act.put, List.setIfInBounds_toArray, List.set_cons_zero, List.set_cons_succ]
    iterate 1 (refine mixk_pure _ rfl (by kernel_rfl) rfl rfl (fun K hK => ?_); go_big_quiet_op; refine hK _ ?_; clear hK K)
    refine mixk_load ⟨wb, 2, none⟩ (.int .i64 (u : Int)) rfl (by kernel_rfl) rfl rfl (fun w1 h1 => run_load_plain Tryz.underlying3 rfl (cell_ext (by exact Q2.out) h1)) ?_
    simp only [Act.put, List.setIfInBounds_toArray, List.set_cons_zero, List.set_cons_succ]
    iterate 1 (refine mixk_pure _ rfl (by kernel_rfl) rfl rfl (fun K hK => ?_); go_big_quiet_op; refine hK _ ?_; clear hK K)
    refine mixk_load ⟨b, o + u, none⟩ (.string t) rfl (by kernel_rfl) rfl rfl (fun w1 h1 => run_load_plain Tryz.underlying9 rfl (cell_ext (by exact QT.out) h1)) ?_
    simp only [Act.put, List.setIfInBounds_toArray, List.set_cons_zero, List.set_cons_succ]
    iterate 1 (refine mixk_pure _ rfl (by kernel_rfl) rfl rfl (fun K hK => ?_); go_big_quiet_op; refine hK _ ?_; clear hK K)
    refine mixk_hard _ rfl (by kernel_rfl) rfl (fun w2 h2 K hK => ?_)
    have HX2 := Lib.hid (show Ext W1 w2 from (drewE W1).trans h2)
    have HRL := Lib.hid (rds_lit w2 [t] 9)
    clear h2
    go_simp
    refine hK _ _ ((ExtR w2).alloc _) ?_
    clear hK K
    have HX2' := Lib.hid (show Ext W1 (w2.alloc (.cells #[.string t] 9)) from HX2.out.trans ((ExtR w2).alloc _))
    refine mixk_call _ 26 _ (.string (shaB (catB [t]))) rfl (by kernel_rfl) rfl (fun w1 => exec_call Tryz.enterOf11 (by kernel_rfl)) (fun w4 h4 => of_t w4 _ [t] (by simp) (HRL.out.ext (by exact h4)) (HB.out.cubes.ext (HB.out.ext.trans (HE1.out.trans (HX2'.out.trans h4))))) ?_
    rw [catB_one, ← HSH.out]
    simp only [Act.put, List.setIfInBounds_toArray, List.set_cons_zero, List.set_cons_succ]
    iterate 2 (refine mixk_pure _ rfl (by kernel_rfl) rfl rfl (fun K hK => ?_); go_big_quiet_op; refine hK _ ?_; clear hK K)
    refine mixk_end (by kernel_rfl) (fun w3 h3 => ?_)
    have h13 := HX2'.out.trans h3
    have HB3 := Lib.hid (HB1.out.keeps h13 (fun h => h))
    have HE3 := Lib.hid (HE1.out.trans h13)
    have HW3 := Lib.hid (show WayAt w3 wb root v u ev from Blk.keeps HW.out HE3.out (fun h => h))
    clear h3 h13 HB1 Q1 Q2 QT HX2 HX2' HRL
    go_wp2_with fail
    have q2 := HW3.out.cell (i := 2) (v := .int .i64 (u : Int)) (by rfl)
    have q1 := HW3.out.cell (i := 1) (v := v) (by rfl)
    rw [HV.out] at q1
    have Q1 := Lib.hid q1
    have Q2 := Lib.hid q2
    have QT := Lib.hid (cell_ext QTW.out HE3.out)
    have NA := Lib.hid (show ¬ w3.heap.size ≤ wb by have := HW3.out.lt; omega)
    have NB := Lib.hid (show ¬ w3.heap.size ≤ b by have := HBL.out.1; have := HE3.out.size; omega)
    clear q1 q2
    refine wp_region_mixD [0,1,2,3,4,5,6,7,8,9,10,11,12,13,14,15,16] [14,15] Ext (Keeps (fun b => w3.heap.size ≤ b)) ExtR ExtT (fun x y z h k => Keeps.trans h k) (fun x y h => h.mono (fun _ _ h => h.elim)) (by kernel_rfl) (by kernel_rfl) (by kernel_rfl) ?_
    iterate 1 (refine mixd_pure _ rfl (by kernel_rfl) rfl rfl (fun K hK => ?_); go_big_quiet_op; refine hK _ ?_; clear hK K)
    refine mixd_val _ (.pointer (some ⟨wb, 0, none⟩)) rfl (by kernel_rfl) rfl (fun w1 _ => by kernel_rfl) ?_
    simp only [Act.put, List.setIfInBounds_toArray, List.set_cons_zero, List.set_cons_succ]
    iterate 1 (refine mixd_pure _ rfl (by kernel_rfl) rfl rfl (fun K hK => ?_); go_big_quiet_op; refine hK _ ?_; clear hK K)
    refine mixd_load ⟨wb, 1, none⟩ (.slice (some ⟨b, o, none⟩) n c) rfl (by kernel_rfl) rfl rfl (fun w1 h1 => run_load_plain Tryz.underlying29 rfl (cell_keeps (by exact Q1.out) h1 NA.out)) ?_
    simp only [Act.put, List.setIfInBounds_toArray, List.set_cons_zero, List.set_cons_succ]
    iterate 1 (refine mixd_pure _ rfl (by kernel_rfl) rfl rfl (fun K hK => ?_); go_big_quiet_op; refine hK _ ?_; clear hK K)
    refine mixd_val _ (.pointer (some ⟨wb, 0, none⟩)) rfl (by kernel_rfl) rfl (fun w1 _ => by kernel_rfl) ?_
    simp only [Act.put, List.setIfInBounds_toArray, List.set_cons_zero, List.set_cons_succ]
    iterate 1 (refine mixd_pure _ rfl (by kernel_rfl) rfl rfl (fun K hK => ?_); go_big_quiet_op; refine hK _ ?_; clear hK K)
    refine mixd_load ⟨wb, 2, none⟩ (.int .i64 (u : Int)) rfl (by kernel_rfl) rfl rfl (fun w1 h1 => run_load_plain Tryz.underlying3 rfl (cell_keeps (by exact Q2.out) h1 NA.out)) ?_
    simp only [Act.put, List.setIfInBounds_toArray, List.set_cons_zero, List.set_cons_succ]
    iterate 1 (refine mixd_pure _ rfl (by kernel_rfl) rfl rfl (fun K hK => ?_); go_big_quiet_op; refine hK _ ?_; clear hK K)
    refine mixd_load ⟨b, o + u, none⟩ (.string t) rfl (by kernel_rfl) rfl rfl (fun w1 h1 => run_load_plain Tryz.underlying9 rfl (cell_keeps (by exact QT.out) h1 NB.out)) ?_
    simp only [Act.put, List.setIfInBounds_toArray, List.set_cons_zero, List.set_cons_succ]
    refine mixd_call _ 25 _ (.tuple #[m.V, .int .i64 gc]) rfl (by kernel_rfl) rfl (fun w1 => exec_call Tryz.enterGet11 (by kernel_rfl)) (fun w1 h1 => HG.out w1 (((HB.out.ext.trans HE3.out).trans (drewE w3)).trans' h1 (fun x hx hw => by have := (HB.out.ext.trans HE3.out).size; omega))) ?_
    simp only [Act.put, List.setIfInBounds_toArray, List.set_cons_zero, List.set_cons_succ]
    iterate 3 (refine mixd_pure _ rfl (by kernel_rfl) rfl rfl (fun K hK => ?_); go_big_quiet_op; refine hK _ ?_; clear hK K)
    refine mixd_hard _ rfl (by kernel_rfl) rfl (fun w4 h4 K hK => ?_)
    have h34 := (drewE w3).trans h4
    refine wp_new1 Tryz.allocNode rfl ?_
    intro W5 hB5 hE5
    refine hK _ _ (ExtK hE5) ?_
    clear hK K h4
    simp only [Act.put, List.setIfInBounds_toArray, List.set_cons_zero, List.set_cons_succ]
    refine mixd_hard _ rfl (by kernel_rfl) rfl (fun w6 h6 K hK => ?_)
    refine wp_fill (vs := m.cells) rfl rfl rfl (hB5.keeps h6 (fun h => h)) (by rw [m.cells_len HM.out]; rfl) (by rw [m.cells_len HM.out]; exact Tryz.szNode) m.one ?_
    intro W7 hB7 hE7
    have h36 := (h34.trans hE5).trans h6
    have h37 := h36.trans' hE7 (fun x hx e => by have e : x = w4.heap.size := e; have := h34.size; omega)
    refine hK _ _ (hE7.mono (fun x hx e => by have e : x = w4.heap.size := e; have := h34.size; show w3.heap.size ≤ x; omega)) ?_
    clear hK K h6 hE7
    simp only [Act.put, List.setIfInBounds_toArray, List.set_cons_zero, List.set_cons_succ]
    iterate 1 (refine mixd_pure _ rfl (by kernel_rfl) rfl rfl (fun K hK => ?_); go_big_quiet_op; refine hK _ ?_; clear hK K)
    refine mixd_end (by kernel_rfl) (fun w8 h8 => ?_)
    have HX8 := Lib.hid (h37.trans h8)
    have HE8 := Lib.hid (HE3.out.trans HX8.out)
    have HM8 := Lib.hid (hB7.keeps h8 (fun h => h))
    have HB8 := Lib.hid (HB3.out.keeps HX8.out (fun h => h))
    have HW8 := Lib.hid (show WayAt w8 wb root v u ev from Blk.keeps HW3.out HX8.out (fun h => h))
    have HNM := Lib.hid (show W.heap.size < w4.heap.size ∧ wb < w4.heap.size by have := h34.size; have := HB3.out.lt; have := HW3.out.lt; omega)
    clear h34 hB5 hE5 hB7 h36 h37 h8 Q1 Q2 QT NA NB HB3 HX8
    obtain ⟨mb, hmb⟩ : ∃ mb, mb = w4.heap.size := ⟨_, rfl⟩
    rw [← hmb] at HM8 HNM ⊢
    clear hmb
    rcases HCS.out with ⟨rfl, rfl⟩ | ⟨rfl, rfl⟩
    case inr =>
      go_wp2_with fail
      refine (fail_c w8 wb root v u ev HW8.out).mono ?_
      rintro e w4 ⟨rfl, ev', hER, hWA, hK⟩
      have hB4 := HB8.out.keeps hK (fun e => by have e : _ = wb := e; have := HLT.out; omega)
      have HR4 := Lib.hid hER
      have HW4 := Lib.hid hWA
      have HK4 := Lib.hid hK
      clear hER hWA hK
      go_wp2_with (refine wpList_fill (vs := emptyN.cells) rfl rfl rfl rfl hB4 rfl Tryz.szNode (NodeT.one _) ?_; intro W8 hB8 hE8)
      refine bodyPost_ret (results_cell_tmp rfl rfl rfl (run_loadVar_api W8 _ emptyN rfl hB8)) rfl ?_
      have hle := HE8.out.size
      refine ⟨((ExtK HE8.out : Keeps (fun b => b = wb) W w8).trans HK4.out).trans' hE8 (fun x hx e => by have e : x = W.heap.size := e; omega), rfl, ev', ?_, ?_⟩
      · obtain ⟨b, k, h1, h2, h3⟩ := HR4.out
        exact ⟨b, k, h1, h2.keeps hE8 (fun e => by have e : b = W.heap.size := e; have := HB8.out.lt; omega), by omega⟩
      · have h9 : WayAt w4 wb root v u ev' := HW4.out
        exact Blk.keeps h9 hE8 (fun e => by have e : wb = W.heap.size := e; have := HLT.out; omega)
    case inl =>
      have h8w : WayAt w8 wb root v u ev := HW8.out
      unfold WayAt at h8w
      have q2 := h8w.cell (i := 2) (v := .int .i64 (u : Int)) (by rfl)
      have f2 : w8.frozen? ⟨wb, 2, none⟩ = false := h8w.frozen
      have hM9 := HM8.out.set_other (p := ⟨wb, 2, none⟩) (by have := HNM.out; show mb ≠ wb; omega) (.int .i64 ((u : Int) + 1))
      have hB9 := HB8.out.set_other (p := ⟨wb, 2, none⟩) (by have := HLT.out; show W.heap.size ≠ wb; omega) (.int .i64 ((u : Int) + 1))
      clear h8w
      go_wp2_with (first | (refine wpList_load_known 60 (.tmp 6) rfl rfl _ _ rfl (run_load_api _ _ m HM.out hM9) ?_) | (refine wpList_fill (vs := m.cells) rfl rfl rfl rfl hB9 (by rw [m.cells_len HM.out]; rfl) (by rw [m.cells_len HM.out]; exact Tryz.szNode) m.one ?_; intro W10 hB10 hE10))
      refine bodyPost_ret (results_cell_tmp rfl rfl rfl (run_loadVar_api W10 _ m HM.out hB10)) rfl ?_
      have h8w : WayAt w8 wb root v u ev := HW8.out
      refine ⟨((ExtK HE8.out : Keeps (fun b => b = wb) W w8).trans (Keeps.oneSet w8 ⟨wb, 2, none⟩ _)).trans' hE10 (fun x hx e => by have e : x = W.heap.size := e; omega), rfl, ?_, HM.out⟩
      have h9 := Blk.set_same (i := 2) h8w (.int .i64 ((u : Int) + 1))
      exact Blk.keeps h9 hE10 (fun e => by have e : wb = W.heap.size := e; have := HLT.out; omega)

end
end Go.Proofs.YtllbcjclibbogaaGreatDoor
