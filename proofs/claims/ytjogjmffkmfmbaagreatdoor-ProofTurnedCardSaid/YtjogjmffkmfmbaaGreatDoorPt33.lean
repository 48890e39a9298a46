/- Parts of the proof, one behind the other: PrfK, PrfL, WayD, NodeR, NodeS, NodeU, IterV, RlpZb. Each is under no condition but those that it states. -/
import Derived.Test.YtjogjmffkmfmbaaGreatDoorPt32
import Derived.Test.YtjogjmffkmfmbaaGreatDoorPt26
import Derived.Test.YtjogjmffkmfmbaaGreatDoorPt31
import Derived.Test.YtjogjmffkmfmbaaGreatDoorPt29
import Derived.Test.YtjogjmffkmfmbaaGreatDoorPt17
import Derived.Test.YtjogjmffkmfmbaaGreatDoorPt30
import Derived.Test.YtjogjmffkmfmbaaGreatDoorPt14
import Derived.Test.YtjogjmffkmfmbaaGreatDoorPt16
import Derived.Test.YtjogjmffkmfmbaaGreatDoorPt27
import Derived.OwnWalk
/- proof: Extract; trie: Empty; what a map's own proof shows. -/
namespace Go.Proofs.YtjogjmffkmfmbaaGreatDoor
section
open Go Go.RowKit
set_option linter.unusedSimpArgs false
set_option linter.unusedVariables false
attribute [local go_sem] Oper.semAt_some
/-! Plain. -/
theorem keyAt_cons (k : ByteArray) (q : Pair) (l : List Pair) : keyAt k (q :: l) = if q.1 = k then some 0 else (keyAt k l).map (· + 1) := by
  unfold keyAt
  rw [List.findIdx?_cons]
  by_cases h : q.1 = k
  · subst h; simp
  · rw [if_neg h]; simp [toList_ne h]
theorem find_val (k : ByteArray) : ∀ l : List Pair, findB l k = valL l k
  | [] => rfl
  | q :: l => by
    have ih := find_val k l
    unfold findB at ih ⊢
    unfold valL
    rw [keyAt_cons]
    by_cases h : q.1 = k
    · rw [if_pos h, if_pos h]; rfl
    · rw [if_neg h, if_neg h, ← ih, Option.map_map]
      cases keyAt k l <;> rfl
theorem wayN_len (l : List Pair) (key : ByteArray) : 1 ≤ (wayN l key).length ∧ (wayN l key).length ≤ 13 := by
  have := way_len 12 (rowsL l) (pathB key)
  unfold wayN
  rw [List.length_cons]; omega
theorem prove_map (w : World) {l : List Pair} (h : checkN l = 0) (key : ByteArray) : proveR (shaB (trieT l).text) key (wayN l key) = (findB l key, true) := by
  obtain ⟨h1, h2⟩ := prove_way w 12 (rowsL l) (pathB key) (rows_ok (check_ok h)) (path_nib key)
  have h1 : proveN (shaB (trieT l).text) (pathB key) (wayN l key) = (visL 12 (rowsL l) (pathB key), [], true) := h1
  have := wayN_len l key
  unfold proveR
  rw [if_neg (by omega), h1, h2, val_find, find_val]; rfl
theorem way_get (w : World) {l : List Pair} (h : checkN l = 0) (key : ByteArray) : GetAll w (wayN l key) := by
  have hr := rows_ok (check_ok h)
  intro t ht
  unfold wayN at ht
  rcases List.mem_cons.1 ht with e | ht
  · rw [e]; exact .inl ⟨nodeF (buildT 12) (rowsL l), rfl, 12, (good 12 _ hr).1⟩
  · obtain ⟨g, m, hW⟩ := way_is 12 _ _ hr (path_nib key) t ht
    rw [hW.text]
    exact .inl ⟨nodeF (buildT g) m, rfl, g, (good g _ hW.rows).1⟩
noncomputable def extN (l : List Pair) (key : ByteArray) (nodes : List ByteArray) : Option (ByteArray × ByteArray) :=
  if checkN l ≠ 0 then none
  else if (proveR (shaB (trieT l).text) key nodes).2 = true ∧ (proveR (shaB (trieT l).text) key nodes).1 ≠ findB l key then clash2 nodes (textsL l) else none
/-! The walks. -/
set_option maxRecDepth 100000 in
set_option maxHeartbeats 4000000 in
theorem empty_c (W : World) (hc : Cubes W) : Calls Tryz.prog 58 #[] W fun e w' => e = .returned (.string (shaB (trieT []).text)) ∧ Ext W w' := by
  have HR := Lib.hid (root_ok W (.slice none 0 0) [] hc (.inl ⟨none, 0, rfl, rfl⟩) (by decide +kernel))
  obtain ⟨r, hr⟩ : ∃ r, r = shaB (trieT []).text := ⟨_, rfl⟩
  rw [← hr] at HR ⊢
  clear hc hr
  go_enter Tryz.func58, Tryz.ntmps58
  go_wp2_with fail
  refine HR.out.mono ?_
  rintro e w1 ⟨rfl, hE⟩
  have HE := Lib.hid hE
  clear hE
  go_wp2_with fail
  go_ret
  exact ⟨rfl, HE.out⟩
set_option maxRecDepth 100000 in
set_option maxHeartbeats 4000000 in
theorem extract_bad (W : World) (v u : Value) (l : List Pair) (key : ByteArray) (hv : RdP W v l) (hn : l.length ≤ 9223372036854775807) (hs : SmallP l) (h : checkN l ≠ 0) :
    Calls Tryz.prog 30 #[v, .string key, u] W fun e w' => e = .returned (clashV none) ∧ Ext W w' := by
  have hR := root_bad W v l hv hn hs h
  obtain ⟨a, c, hsl⟩ := hv.sl
  subst hsl
  obtain ⟨x, hx⟩ : ∃ x, x = checkN l := ⟨_, rfl⟩
  rw [← hx] at h hR
  have hne : (x != 0) = true := by simpa using h
  have HR := Lib.hid hR
  clear hR hv hx hs
  go_enter Tryz.func30, Tryz.ntmps30
  go_wp2_with fail
  refine HR.out.mono ?_
  rintro e w1 ⟨rfl, hE⟩
  have HE := Lib.hid hE
  clear hE
  go_wp2_with fail
  go_ret3
  exact ⟨rfl, HE.out⟩
def ExRel (w5 : World) (xs ys : List ByteArray) (v : Value) (wr : World) : Prop := ∃ i : Nat, i ≤ xs.length ∧ v = .int .i64 i ∧ Ext w5 wr ∧ (xs.take i).findSome? (clashIn ys) = none
def ExRel2 (w5 : World) (x : ByteArray) (ys : List ByteArray) (v : Value) (wr : World) : Prop := ∃ j : Nat, j ≤ ys.length ∧ v = .int .i64 j ∧ Ext w5 wr ∧ (ys.take j).find? (collB x) = none
set_option maxRecDepth 100000 in
set_option maxHeartbeats 8000000 in
theorem extract_ok (W : World) (hc : Cubes W) (v u : Value) (l : List Pair) (key : ByteArray) (nodes : List ByteArray) (hv : RdP W v l) (hu : RdS W u nodes) (hk : key.size ≤ 1000) (hn : nodes.length ≤ 1000000) (hG : GetAll W nodes) (h : checkN l = 0) :
    Calls Tryz.prog 30 #[v, .string key, u] W fun e w' => e = .returned (clashV (extN l key nodes)) ∧ Ext W w' := by
  have hll : l.length ≤ 1000000 := Nat.le_trans (check_ok h).len (by decide)
  obtain ⟨R, hR0⟩ : ∃ R, R = clashV (extN l key nodes) := ⟨_, rfl⟩
  rw [← hR0]
  obtain ⟨⟨o, b⟩, hr⟩ : ∃ r, r = proveR (shaB (trieT l).text) key nodes := ⟨_, rfl⟩
  obtain ⟨f, hf⟩ : ∃ f, f = findB l key := ⟨_, rfl⟩
  have hR0 : R = clashV (if b = true ∧ o ≠ f then clash2 nodes (textsL l) else none) := by
    rw [hR0]; unfold extN; rw [if_neg (fun hh => hh h), ← hr, ← hf]
  have HR0 := Lib.hid hR0
  have HRT := Lib.hid (root_ok W v l hc hv h)
  have HVF := Lib.hid (fun w (e : Ext W w) => verify_c w (hc.ext e) (shaB (trieT l).text) key hk u nodes (hu.ext e) (hG.ext e))
  have HHO := Lib.hid (fun w (e : Ext W w) => holds_c w v l key o (hv.ext e) hll)
  have HND := Lib.hid (fun w (e : Ext W w) => nodes_ok w v l (hc.ext e) (hv.ext e) h)
  rw [← hr] at HVF
  rw [← hf] at HHO
  obtain ⟨rt, hrt⟩ : ∃ rt, rt = shaB (trieT l).text := ⟨_, rfl⟩
  rw [← hrt] at HRT HVF
  obtain ⟨ys, hys⟩ : ∃ ys, ys = firsts (flatT (trieT l)) := ⟨_, rfl⟩
  have hly : ys.length ≤ 1000000 := by
    rw [hys]; have a := textsL_len h; exact Nat.le_trans a (by decide)
  rw [← hys] at HND
  have HYS := Lib.hid (show textsL l = ys from hys.symm)
  have HC := Lib.hid hc
  have HU := Lib.hid hu
  obtain ⟨a, c, hsl⟩ := hv.sl
  subst hsl
  obtain ⟨a', c', hsl⟩ := rds_sl hu
  subst hsl
  clear hc hv hu hk hG h hR0 hr hf hrt hys hll
  go_enter Tryz.func30, Tryz.ntmps30
  go_wp2_with fail
  refine HRT.out.mono ?_
  rintro e w1 ⟨rfl, hE⟩
  have HE1 := Lib.hid hE
  clear hE HRT
  go_wp2_with fail
  refine (HVF.out w1 HE1.out).mono ?_
  rintro e w2 ⟨rfl, hE⟩
  have HE2 := Lib.hid (HE1.out.trans hE)
  clear hE HE1 HVF
  unfold verV
  cases b with
  | false =>
    unfold clmV
    go_wp2_with (first | (refine wpList_new Tryz.allocClaim rfl rfl ?_; intro W3 hB3 hE3) | (refine wpList_fill (old := clmL none) (vs := clmL none) rfl rfl rfl rfl hB3 (by rw [clm_len]) (by rw [clm_len]; exact Tryz.szClaim) (clm_one _) ?_; intro W4 hB4 hE4))
    go_ret3
    have hX4 : Ext w2 W4 := hE3.trans' hE4 (fun x hx e => by have e : x = w2.heap.size := e; omega)
    exact ⟨by rw [HR0.out, if_neg (fun h => by cases h.1)]; rfl, HE2.out.trans hX4⟩
  | true =>
    unfold clmV
    go_wp2_with (first | (refine wpList_new Tryz.allocClaim rfl rfl ?_; intro W3 hB3 hE3) | (refine wpList_fill (old := clmL none) (vs := clmL o) rfl rfl rfl rfl hB3 ((clm_len none).trans (clm_len o).symm) (by rw [clm_len]; exact Tryz.szClaim) (clm_one _) ?_; intro W4 hB4 hE4; have HB4 := Lib.hid hB4) | (refine wpList_load_known 47 (.tmp 11) rfl rfl _ _ rfl (run_load_clm HB4.out) ?_))
    have hX4 : Ext w2 W4 := hE3.trans' hE4 (fun x hx e => by have e : x = w2.heap.size := e; omega)
    have HE4 := Lib.hid (HE2.out.trans hX4)
    clear hB3 hE3 hB4 hE4 hX4
    refine (HHO.out W4 HE4.out).mono ?_
    rintro e w5 ⟨rfl, hE⟩
    have HE5 := Lib.hid (HE4.out.trans hE)
    clear hE HE4
    by_cases hof : o = f
    · have hd : decide (o = f) = true := decide_eq_true hof
      rw [hd]
      clear hd
      have HOF := Lib.hid hof
      clear hof
      go_wp2_with fail
      go_ret3
      exact ⟨by rw [HR0.out, if_neg (fun h => h.2 HOF.out)]; rfl, HE5.out⟩
    have hd : decide (o = f) = false := decide_eq_false hof
    rw [hd]
    have HR1 := Lib.hid (show R = clashV (clash2 nodes ys) by rw [HR0.out, if_pos ⟨trivial, hof⟩, HYS.out])
    clear hd hof HR0
    go_wp2_with fail
    refine (HND.out w5 HE5.out).mono ?_
    rintro e w6 ⟨q, n, rfl, hRw⟩
    have hrd := hRw.rd
    have HE6 := Lib.hid (HE5.out.trans hRw.ext)
    have hln : ys.length = n := by have := hRw.len; simpa using this
    subst hln
    obtain ⟨a3, c3, e3⟩ := hRw.sl
    subst e3
    have HY6 := Lib.hid hrd
    have HX6 := Lib.hid (HU.out.ext HE6.out)
    clear hRw hrd HE5 HND
    go_wp2_with fail
    go_loopw [48] (fun i wr => ExRel w6 nodes ys i wr) (fun i _ => nodes.length - (intOf i).toNat)
    case atStart => exact ⟨0, by omega, rfl, ExtR _, by simp⟩
    case round =>
      obtain ⟨i, hi, rfl, hE, hall⟩ := hrel
      have HE := Lib.hid hE
      have HALL := Lib.hid hall
      clear hE hall
      by_cases hlt : i < nodes.length
      · obtain ⟨x, hx⟩ : ∃ x, nodes[i]? = some x := ⟨_, List.getElem?_eq_getElem hlt⟩
        obtain ⟨a7, c7, hh, hcx⟩ := HX6.out.slice
        obtain ⟨bx, ox, hax, hcx0⟩ := hcx i x hx
        obtain ⟨e1, _, e3⟩ := Value.slice.inj hh
        rw [hax] at e1
        subst e1
        subst e3
        have hq := cell_ext hcx0 HE.out
        have HXI := Lib.hid hx
        have b1 : (i : Int) < (nodes.length : Int) := by omega
        clear hh hcx hcx0 hax hx
        go_wp2_with fail
        clear hq
        go_loopw [54] (fun j wr => ExRel2 w6 x ys j wr) (fun j _ => ys.length - (intOf j).toNat)
        case atStart => exact ⟨0, by omega, rfl, HE.out, by simp⟩
        case round =>
          obtain ⟨j, hj, rfl, hF, hall2⟩ := hrel
          have HF := Lib.hid hF
          have HALL2 := Lib.hid hall2
          clear hF hall2
          by_cases hlt2 : j < ys.length
          · obtain ⟨y, hy⟩ : ∃ y, ys[j]? = some y := ⟨_, List.getElem?_eq_getElem hlt2⟩
            obtain ⟨a8, c8, hh, hcx⟩ := HY6.out.slice
            obtain ⟨by2, oy2, hax, hcx0⟩ := hcx j y hy
            obtain ⟨e1, _, e3⟩ := Value.slice.inj hh
            rw [hax] at e1
            subst e1
            subst e3
            have hq := cell_ext hcx0 HF.out
            have HYJ := Lib.hid hy
            have b2 : (j : Int) < (ys.length : Int) := by omega
            clear hh hcx hcx0 hax hy
            go_wp2_with fail
            clear hq
            refine (collide_t _ x y (HC.out.ext (HE6.out.trans HF.out))).mono ?_
            rintro e w7 ⟨rfl, hE7⟩
            have HE7 := Lib.hid (HF.out.trans hE7)
            clear hE7
            obtain ⟨cb, hcb⟩ : ∃ cb, cb = collB x y := ⟨_, rfl⟩
            rw [show (decide (x ≠ y) && decide (shaB x = shaB y)) = cb from hcb.symm]
            have HCB := Lib.hid hcb
            clear hcb
            cases cb with
            | true =>
              have HFND := Lib.hid (show R = clashV (some (x, y)) by
                rw [HR1.out, clash2_at HXI.out HALL.out (r := (x, y)) (by unfold clashIn; rw [find_at HYJ.out HALL2.out HCB.out.symm]; rfl)])
              go_wp2_with fail
              go_ret3
              exact ⟨by rw [HFND.out]; rfl, HE6.out.trans HE7.out⟩
            | false =>
              have HST := Lib.hid (find_step HYJ.out HALL2.out HCB.out.symm)
              go_wp2_with fail
              go_roundw
              case rel => exact ⟨j + 1, by omega, by go_num, HE7.out, HST.out⟩
              case measure => simp [intOf]; omega
          · have hjn : j = ys.length := by omega
            have HST := Lib.hid (show (nodes.take (i + 1)).findSome? (clashIn ys) = none from clash2_step HXI.out HALL.out (by have h := HALL2.out; rwa [hjn, List.take_length] at h))
            clear hjn
            go_wp2_with fail
            go_roundw
            case rel => exact ⟨i + 1, by omega, by go_num, HF.out, HST.out⟩
            case measure => simp [intOf]; omega
      · have hin : i = nodes.length := by omega
        have HFN := Lib.hid (show R = clashV none by
          rw [HR1.out]
          have h := HALL.out
          rw [hin, List.take_length] at h
          unfold clash2; rw [h])
        clear hin
        go_wp2_with fail
        go_ret3
        exact ⟨by rw [HFN.out]; rfl, HE6.out.trans HE.out⟩
theorem extract_c (W : World) (hc : Cubes W) (v u : Value) (l : List Pair) (key : ByteArray) (nodes : List ByteArray) (hv : RdP W v l) (hu : RdS W u nodes) (hk : key.size ≤ 1000) (hl : l.length ≤ 9223372036854775807) (hs : SmallP l) (hn : nodes.length ≤ 1000000) (hG : GetAll W nodes) :
    Calls Tryz.prog 30 #[v, .string key, u] W fun e w' => e = .returned (clashV (extN l key nodes)) ∧ Ext W w' := by
  by_cases h : checkN l = 0
  · exact extract_ok W hc v u l key nodes hv hu hk hn hG h
  · have e : extN l key nodes = none := by unfold extN; rw [if_pos h]
    rw [e]
    exact extract_bad W v u l key hv hl hs h
end
end Go.Proofs.YtjogjmffkmfmbaaGreatDoor
/- law 11: works. -/
namespace Go.Proofs.YtjogjmffkmfmbaaGreatDoor
section
open Go Go.RowKit
set_option linter.unusedSimpArgs false
set_option linter.unusedVariables false
attribute [local go_sem] Oper.semAt_some
def exW : List Pair := [(⟨#[97]⟩, ⟨#[49]⟩), (⟨#[98]⟩, ⟨#[50]⟩)]
theorem exW_ok : checkN exW = 0 := by decide +kernel
theorem exW_few : fewB exW = true := by decide +kernel
theorem exW_inj : InjL (textsL exW) := by unfold InjL; decide +kernel
theorem exW_nil : checkN [] = 0 := by decide +kernel
theorem exW_none : wayN [] ⟨#[97]⟩ = [⟨#[128]⟩] := by decide +kernel
theorem exW_a : findB exW ⟨#[97]⟩ = some ⟨#[49]⟩ := by decide +kernel
theorem exW_b : findB exW ⟨#[98]⟩ = some ⟨#[50]⟩ := by decide +kernel
theorem exW_0 : findB [] ⟨#[97]⟩ = none := by decide +kernel
theorem rdp_litW (w : World) (xs : List Pair) (T : TypeId) : RdP (w.alloc (.cells (cellsP xs).toArray T)) (.slice (some ⟨w.heap.size, 0, none⟩) xs.length xs.length) xs := by
  refine .inr ⟨_, 0, _, rfl, (Blk.new w _).lt, Nat.le_refl _, fun j x hx => ?_⟩
  obtain ⟨h1, h2⟩ := cellsP_get xs j x hx
  exact ⟨by rw [Nat.zero_add]; exact (Blk.new w _).cellL h1, by rw [Nat.zero_add]; exact (Blk.new w _).cellL h2⟩
/-- What is new since z may be written, but no block of another type than a claim. -/
def KpC (z : Nat) (x y : World) : Prop := Keeps (fun b => z ≤ b) x y ∧ ∀ b cs T, T ≠ 47 → Blk x b (.cells cs T) → Blk y b (.cells cs T)
theorem KpC.trans (z : Nat) (a b c : World) (h : KpC z a b) (k : KpC z b c) : KpC z a c := ⟨h.1.trans k.1, fun x cs T e hB => k.2 x cs T e (h.2 x cs T e hB)⟩
theorem KpC.ext (z : Nat) (x y : World) (h : Ext x y) : KpC z x y := ⟨h.mono (fun _ _ h => h.elim), fun b cs T _ hB => hB.keeps h (fun h => h)⟩
theorem KpC.fill {z b : Nat} {x y : World} {cs : Array Value} (h : Keeps (fun c => c = b) x y) (hz : z ≤ b) (hB : Blk x b (.cells cs 47)) : KpC z x y :=
  ⟨h.mono (fun c _ e => by have e : c = b := e; show z ≤ c; omega), fun c ds T hT hC => hC.keeps h (fun e => by
    have e : c = b := e
    subst e
    have h := Option.some.inj (hC.symm.trans hB)
    injection h with _ h2
    exact hT h2)⟩
theorem Tryz.enterEmpty : ∀ args w, (callFunc 58 args).run Tryz.prog w = .ok (.enter 58 args) w := fun _ _ => by kernel_rfl
theorem Tryz.enterVerify : ∀ args w, (callFunc 22 args).run Tryz.prog w = .ok (.enter 22 args) w := fun _ _ => by kernel_rfl
theorem conv_one {w : World} {b : Nat} {x : UInt8} {T : TypeId} {a : Act} {o : Oper} (ho : execOp a.eval o = (do pure (.value (← convert 63 9 (.slice (some ⟨b, 0, none⟩) 1 1))))) (hB : Blk w b (.cells #[.int .u8 (x.toNat : Int)] T)) : (execOp a.eval o).run Tryz.prog w = .ok (.value (.string ⟨#[x]⟩)) w := by
  have hc : (convert 63 9 (.slice (some ⟨b, 0, none⟩) 1 1)).run Tryz.prog w = .ok (.string ⟨#[x]⟩) w := by
    refine run_convert_bytes_back w _ _ _ ⟨b, 0, none⟩ 1 [x] Tryz.uBytes Tryz.uU8 Tryz.uStr (fun j hj => ?_)
    have h0 : j = 0 := by simp at hj; omega
    subst h0
    exact hB.cell (by rfl)
  rw [ho, Sem.run_bind, hc]
  rfl
theorem rds_blk1 {w : World} {b : Nat} {t : ByteArray} {T : TypeId} (hB : Blk w b (.cells #[.string t] T)) : RdS w (.slice (some ⟨b, 0, none⟩) 1 1) [t] :=
  .inr ⟨b, 0, 1, rfl, hB.lt, Nat.le_refl _, fun j x hx => by
    rw [Nat.zero_add]
    match j, hx with
    | 0, hx => simp at hx; subst hx; exact hB.cell (by rfl)⟩
def w11Act (b : Nat) (rt : ByteArray) (x19 x21 : Value) : Act := { tmps := #[.bool false, .pointer (some ⟨b, 0, none⟩), .int .i64 0, undef, undef, undef, undef, undef, undef, undef, undef, undef, undef, undef, undef, undef, undef, .tuple #[clmV none, .int .i64 0], .string rt, x19, .string ⟨#[128]⟩, x21, .tuple #[clmV none, .int .i64 0], clmV none, .int .i64 0, undef, undef, undef, undef, undef, undef, undef, undef, undef, undef, undef, undef, undef, undef, undef, undef, undef, undef, undef, undef, undef, undef, undef, undef, undef, undef, undef, undef, undef, undef, undef, undef, undef, undef, undef, undef, undef, undef, undef, undef, undef, undef, undef, undef, undef, undef, undef, undef, undef, undef, undef, undef, undef, undef, undef, undef, undef, undef, undef, undef, undef, undef, undef, undef, undef, undef, undef, undef, undef, undef, undef, undef, undef, undef, undef, undef, undef, undef, undef, undef, undef, undef, undef, undef, undef, undef, undef, undef, undef, undef, undef, undef, undef, undef], defers := [] }
set_option maxRecDepth 100000 in
set_option maxHeartbeats 16000000 in
theorem works11_c (w : World) (hc : Cubes w) : Calls Tryz.prog 19 #[] w fun e w' => e = .returned (.bool true) ∧ Ext w w' := by
  have HC := Lib.hid hc
  obtain ⟨rt, hrt⟩ : ∃ rt, rt = shaB (trieT []).text := ⟨_, rfl⟩
  have HEM := Lib.hid (fun w (h : Cubes w) => empty_c w h)
  rw [← hrt] at HEM
  have HVE := Lib.hid (fun w (h : Cubes w) v (hv : RdS w v [⟨#[128]⟩]) => verify_c w h rt ⟨#[97]⟩ (by decide) v [⟨#[128]⟩] hv (by rw [← exW_none]; exact way_get w exW_nil _))
  have e1 : verV (proveR rt ⟨#[97]⟩ [⟨#[128]⟩]) = .tuple #[clmV none, .int .i64 0] := by
    have := prove_map w exW_nil ⟨#[97]⟩
    rw [exW_none, exW_0] at this
    rw [hrt, this]; rfl
  rw [e1] at HVE
  clear hc hrt e1
  go_enter Tryz.func19, Tryz.ntmps19
  go_wp2_with fail
  refine wp_mono (Q := fun e a' w' => e = .normal ∧ ∃ (b : Nat) (x19 x21 : Value), a' = w11Act b rt x19 x21 ∧ Ext w w' ∧ Blk w' b (.cells (clmL none).toArray 47)) (wp_region_mixH [1,3,8,9] Ext (KpC w.heap.size) ExtR ExtT (KpC.trans w.heap.size) (KpC.ext w.heap.size) (by kernel_rfl) (by kernel_rfl) 11 (by kernel_rfl) ?_) ?_
  · refine mixh_call (k := 0) _ 58 #[] (.string rt) rfl (by kernel_rfl) rfl (fun w1 => exec_call Tryz.enterEmpty (by kernel_rfl)) (fun w1 h1 => HEM.out w1 (HC.out.keeps (((drewE w).mono (fun _ _ h => h.elim) : Keeps (fun b => w.heap.size ≤ b) w _).trans h1.1) (fun e => by have e : w.heap.size ≤ _ := e; have := HC.out.lt; omega))) ?_
    simp only [Act.put, List.setIfInBounds_toArray, List.set_cons_zero, List.set_cons_succ]
    have HX0 := Lib.hid (drewE w)
    refine mixh_two 1 8 _ _ (by kernel_rfl) rfl rfl rfl rfl (fun u1 k1 K hK => ?_) (fun u1 k1 K hK => ?_)
    · have HX1 := Lib.hid (show Ext w (u1.alloc (.cells #[.int .u8 128] 5)) from (HX0.out.trans k1).trans ((ExtR u1).alloc _))
      have HB1 := Lib.hid (Blk.new u1 (.cells #[.int .u8 128] 5))
      go_simp
      refine hK _ _ (KpC.ext _ _ _ ((ExtR _).alloc _)) ?_
      clear hK K k1
      refine mixh_val (k := 2) _ (.string ⟨#[128]⟩) rfl (by kernel_rfl) rfl (fun w9 h9 => conv_one (x := 128) rfl (h9.2 _ _ _ (show 5 ≠ 47 by decide) (by exact HB1.out))) ?_
      simp only [Act.put, List.setIfInBounds_toArray, List.set_cons_zero, List.set_cons_succ]
      refine mixh_two 3 8 _ _ (by kernel_rfl) rfl rfl rfl rfl (fun u2 k2 K hK => ?_) (fun u2 k2 K hK => ?_)
      · have HX2 := Lib.hid (show Ext w (u2.alloc (.cells #[.string ⟨#[128]⟩] 9)) from (HX1.out.trans k2).trans ((ExtR u2).alloc _))
        have HB3 := Lib.hid (Blk.new u2 (.cells #[.string ⟨#[128]⟩] 9))
        go_simp
        refine hK _ _ (KpC.ext _ _ _ ((ExtR _).alloc _)) ?_
        clear hK K
        refine mixh_call (k := 4) _ 22 _ (.tuple #[clmV none, .int .i64 0]) rfl (by kernel_rfl) rfl (fun w1 => exec_call Tryz.enterVerify (by kernel_rfl)) (fun w9 h9 => HVE.out w9 (HC.out.keeps (((HX2.out.mono (fun _ _ h => h.elim)) : Keeps (fun b => w.heap.size ≤ b) w _).trans h9.1) (fun e => by have e : w.heap.size ≤ _ := e; have := HC.out.lt; omega)) _ (rds_blk1 (h9.2 _ _ _ (show 9 ≠ 47 by decide) (by exact HB3.out)))) ?_
        simp only [Act.put, List.setIfInBounds_toArray, List.set_cons_zero, List.set_cons_succ]
        refine mixh_pure (k := 5) _ rfl (by kernel_rfl) rfl rfl (fun K hK => ?_); go_big_quiet_op; refine hK _ ?_; clear hK K
        refine mixh_pure (k := 6) _ rfl (by kernel_rfl) rfl rfl (fun K hK => ?_); go_big_quiet_op; refine hK _ ?_; clear hK K
        refine mixh_pure (k := 7) _ rfl (by kernel_rfl) rfl rfl (fun K hK => ?_); go_big_quiet_op; refine hK _ ?_; clear hK K
        refine mixh_hard (k := 8) _ rfl (by kernel_rfl) rfl (fun u3 k3 K hK => ?_)
        refine wp_new1 Tryz.allocClaim rfl ?_
        intro W8 hB8 hE8
        have HX3 := Lib.hid (show Ext w W8 from (HX2.out.trans k3).trans hE8)
        have HZ8 := Lib.hid (show w.heap.size ≤ u3.heap.size from (HX2.out.trans k3).size)
        have HB8 := Lib.hid hB8
        refine hK _ _ (KpC.ext _ _ _ hE8) ?_
        clear hK K hB8 hE8
        simp only [Act.put, List.setIfInBounds_toArray, List.set_cons_zero, List.set_cons_succ]
        refine mixh_hard (k := 9) _ rfl (by kernel_rfl) rfl (fun u4 k4 K hK => ?_)
        have hB9 := HB8.out.keeps k4 (fun h => h)
        refine wp_fill (old := clmL none) (vs := clmL none) rfl rfl rfl hB9 rfl (by rw [clm_len]; exact Tryz.szClaim) (clm_one _) ?_
        intro W9 hB9' hE9
        refine hK _ _ (KpC.fill hE9 HZ8.out hB9) ?_
        have HX4 := Lib.hid (show Ext w W9 from (HX3.out.trans k4).trans' hE9 (fun x hx e => by have e : x = _ := e; have := HZ8.out; omega))
        clear hK K
        simp only [Act.put, List.setIfInBounds_toArray, List.set_cons_zero, List.set_cons_succ]
        refine mixh_pure (k := 10) _ rfl (by kernel_rfl) rfl rfl (fun K hK => ?_); go_big_quiet_op; refine hK _ ?_; clear hK K
        refine mixh_end (by kernel_rfl) (fun w10 h10 => ?_)
        exact ⟨trivial, _, _, _, rfl, HX4.out.trans h10, hB9'.keeps h10 (fun h => h)⟩
      · refine wp_new1 Tryz.allocClaim rfl ?_
        intro W8 hB8 hE8
        have HX2 := Lib.hid (show Ext w W8 from (HX1.out.trans k2).trans hE8)
        have HZ8 := Lib.hid (show w.heap.size ≤ u2.heap.size from (HX1.out.trans k2).size)
        have HB8 := Lib.hid hB8
        refine hK _ _ (KpC.ext _ _ _ hE8) ?_
        clear hK K hB8 hE8
        simp only [Act.put, List.setIfInBounds_toArray, List.set_cons_zero, List.set_cons_succ]
        refine mixh_hard (k := 3) _ rfl (by kernel_rfl) rfl (fun u3 k3 K hK => ?_)
        replace HB8 := Lib.hid (HB8.out.keeps (k3.trans ((ExtR u3).alloc (.cells #[.string ⟨#[128]⟩] 9))) (fun h => h))
        have HX3 := Lib.hid (show Ext w (u3.alloc (.cells #[.string ⟨#[128]⟩] 9)) from (HX2.out.trans k3).trans ((ExtR u3).alloc _))
        have HB3 := Lib.hid (Blk.new u3 (.cells #[.string ⟨#[128]⟩] 9))
        go_simp
        refine hK _ _ (KpC.ext _ _ _ ((ExtR _).alloc _)) ?_
        clear hK K
        refine mixh_call (k := 4) _ 22 _ (.tuple #[clmV none, .int .i64 0]) rfl (by kernel_rfl) rfl (fun w1 => exec_call Tryz.enterVerify (by kernel_rfl)) (fun w9 h9 => HVE.out w9 (HC.out.keeps (((HX3.out.mono (fun _ _ h => h.elim)) : Keeps (fun b => w.heap.size ≤ b) w _).trans h9.1) (fun e => by have e : w.heap.size ≤ _ := e; have := HC.out.lt; omega)) _ (rds_blk1 (h9.2 _ _ _ (show 9 ≠ 47 by decide) (by exact HB3.out)))) ?_
        simp only [Act.put, List.setIfInBounds_toArray, List.set_cons_zero, List.set_cons_succ]
        refine mixh_pure (k := 5) _ rfl (by kernel_rfl) rfl rfl (fun K hK => ?_); go_big_quiet_op; refine hK _ ?_; clear hK K
        refine mixh_pure (k := 6) _ rfl (by kernel_rfl) rfl rfl (fun K hK => ?_); go_big_quiet_op; refine hK _ ?_; clear hK K
        refine mixh_pure (k := 7) _ rfl (by kernel_rfl) rfl rfl (fun K hK => ?_); go_big_quiet_op; refine hK _ ?_; clear hK K
        refine mixh_hard (k := 9) _ rfl (by kernel_rfl) rfl (fun u4 k4 K hK => ?_)
        have hB9 := HB8.out.keeps k4 (fun h => h)
        refine wp_fill (old := clmL none) (vs := clmL none) rfl rfl rfl hB9 rfl (by rw [clm_len]; exact Tryz.szClaim) (clm_one _) ?_
        intro W9 hB9' hE9
        refine hK _ _ (KpC.fill hE9 HZ8.out hB9) ?_
        have HX4 := Lib.hid (show Ext w W9 from (HX3.out.trans k4).trans' hE9 (fun x hx e => by have e : x = _ := e; have := HZ8.out; omega))
        clear hK K
        simp only [Act.put, List.setIfInBounds_toArray, List.set_cons_zero, List.set_cons_succ]
        refine mixh_pure (k := 10) _ rfl (by kernel_rfl) rfl rfl (fun K hK => ?_); go_big_quiet_op; refine hK _ ?_; clear hK K
        refine mixh_end (by kernel_rfl) (fun w10 h10 => ?_)
        exact ⟨trivial, _, _, _, rfl, HX4.out.trans h10, hB9'.keeps h10 (fun h => h)⟩
    · refine wp_new1 Tryz.allocClaim rfl ?_
      intro W8 hB8 hE8
      have HX1 := Lib.hid (show Ext w W8 from (HX0.out.trans k1).trans hE8)
      have HZ8 := Lib.hid (show w.heap.size ≤ u1.heap.size from (HX0.out.trans k1).size)
      have HB8 := Lib.hid hB8
      refine hK _ _ (KpC.ext _ _ _ hE8) ?_
      clear hK K hB8 hE8
      simp only [Act.put, List.setIfInBounds_toArray, List.set_cons_zero, List.set_cons_succ]
      refine mixh_hard (k := 1) _ rfl (by kernel_rfl) rfl (fun u2 k2 K hK => ?_)
      replace HB8 := Lib.hid (HB8.out.keeps (k2.trans ((ExtR u2).alloc (.cells #[.int .u8 128] 5))) (fun h => h))
      have HX2 := Lib.hid (show Ext w (u2.alloc (.cells #[.int .u8 128] 5)) from (HX1.out.trans k2).trans ((ExtR u2).alloc _))
      have HB1 := Lib.hid (Blk.new u2 (.cells #[.int .u8 128] 5))
      go_simp
      refine hK _ _ (KpC.ext _ _ _ ((ExtR _).alloc _)) ?_
      clear hK K k2
      refine mixh_val (k := 2) _ (.string ⟨#[128]⟩) rfl (by kernel_rfl) rfl (fun w9 h9 => conv_one (x := 128) rfl (h9.2 _ _ _ (show 5 ≠ 47 by decide) (by exact HB1.out))) ?_
      simp only [Act.put, List.setIfInBounds_toArray, List.set_cons_zero, List.set_cons_succ]
      refine mixh_hard (k := 3) _ rfl (by kernel_rfl) rfl (fun u3 k3 K hK => ?_)
      replace HB8 := Lib.hid (HB8.out.keeps (k3.trans ((ExtR u3).alloc (.cells #[.string ⟨#[128]⟩] 9))) (fun h => h))
      have HX3 := Lib.hid (show Ext w (u3.alloc (.cells #[.string ⟨#[128]⟩] 9)) from (HX2.out.trans k3).trans ((ExtR u3).alloc _))
      have HB3 := Lib.hid (Blk.new u3 (.cells #[.string ⟨#[128]⟩] 9))
      go_simp
      refine hK _ _ (KpC.ext _ _ _ ((ExtR _).alloc _)) ?_
      clear hK K
      refine mixh_call (k := 4) _ 22 _ (.tuple #[clmV none, .int .i64 0]) rfl (by kernel_rfl) rfl (fun w1 => exec_call Tryz.enterVerify (by kernel_rfl)) (fun w9 h9 => HVE.out w9 (HC.out.keeps (((HX3.out.mono (fun _ _ h => h.elim)) : Keeps (fun b => w.heap.size ≤ b) w _).trans h9.1) (fun e => by have e : w.heap.size ≤ _ := e; have := HC.out.lt; omega)) _ (rds_blk1 (h9.2 _ _ _ (show 9 ≠ 47 by decide) (by exact HB3.out)))) ?_
      simp only [Act.put, List.setIfInBounds_toArray, List.set_cons_zero, List.set_cons_succ]
      refine mixh_pure (k := 5) _ rfl (by kernel_rfl) rfl rfl (fun K hK => ?_); go_big_quiet_op; refine hK _ ?_; clear hK K
      refine mixh_pure (k := 6) _ rfl (by kernel_rfl) rfl rfl (fun K hK => ?_); go_big_quiet_op; refine hK _ ?_; clear hK K
      refine mixh_pure (k := 7) _ rfl (by kernel_rfl) rfl rfl (fun K hK => ?_); go_big_quiet_op; refine hK _ ?_; clear hK K
      refine mixh_hard (k := 9) _ rfl (by kernel_rfl) rfl (fun u4 k4 K hK => ?_)
      have hB9 := HB8.out.keeps k4 (fun h => h)
      refine wp_fill (old := clmL none) (vs := clmL none) rfl rfl rfl hB9 rfl (by rw [clm_len]; exact Tryz.szClaim) (clm_one _) ?_
      intro W9 hB9' hE9
      refine hK _ _ (KpC.fill hE9 HZ8.out hB9) ?_
      have HX4 := Lib.hid (show Ext w W9 from (HX3.out.trans k4).trans' hE9 (fun x hx e => by have e : x = _ := e; have := HZ8.out; omega))
      clear hK K
      simp only [Act.put, List.setIfInBounds_toArray, List.set_cons_zero, List.set_cons_succ]
      refine mixh_pure (k := 10) _ rfl (by kernel_rfl) rfl rfl (fun K hK => ?_); go_big_quiet_op; refine hK _ ?_; clear hK K
      refine mixh_end (by kernel_rfl) (fun w10 h10 => ?_)
      exact ⟨trivial, _, _, _, rfl, HX4.out.trans h10, hB9'.keeps h10 (fun h => h)⟩
  · rintro e a' w1 ⟨rfl, b, x19, x21, rfl, hE, hB⟩
    have HE1 := Lib.hid hE
    have HB1 := Lib.hid hB
    clear hE hB HEM HVE
    unfold w11Act
    go_wp2_with fail
    have hx0 : Ext w1 (w1.alloc (.cells #[.string ⟨#[97]⟩, .string ⟨#[49]⟩, .string ⟨#[98]⟩, .string ⟨#[50]⟩] 88)) := (ExtR w1).alloc _
    refine (hold08x_c _ (HC.out.ext (HE1.out.trans hx0)) _ exW (rdp_litW w1 exW 88) (by decide) (fun p hp => by
      have : ∀ p ∈ exW, p.1.size ≤ 9223372036854775807 ∧ p.2.size ≤ 9223372036854775807 := by decide
      exact this p hp)).mono ?_
    rintro e w2 (⟨_, _, hno⟩ | ⟨s, bm, S, rfl, hE, hH, _, _⟩)
    · exact absurd ⟨exW_few, exW_ok, exW_inj⟩ hno
    have HE2 := Lib.hid (HE1.out.trans (hx0.trans hE))
    have HB2 := Lib.hid (HB1.out.keeps (hx0.trans hE) (fun h => h))
    have HL2 := Lib.hid ((rdp_litW w1 exW 88).ext hE)
    have HS2 := Lib.hid hH.st
    have HM := Lib.hid (And.intro hH.hasM hH.key)
    obtain ⟨rx, hrx⟩ : ∃ rx, rx = shaB (trieT exW).text := ⟨_, rfl⟩
    have HRX := Lib.hid hrx
    rw [← hrx]
    obtain ⟨lg, hlg⟩ : ∃ lg, lg = w1.heap.size := ⟨_, rfl⟩
    rw [← hlg] at HL2 ⊢
    have HL2 := Lib.hid (show RdP w2 (.slice (some ⟨lg, 0, none⟩) 2 2) exW from HL2.out)
    clear hE hH hx0 hrx HE1 HB1 hlg
    go_wp2_with fail
    have hbd := build11_c w2 s bm 2000 S HS2.out exW HM.out.1 ⟨#[98]⟩ (by decide)
    rw [← HRX.out] at hbd
    refine hbd.mono ?_
    rintro e w3 ⟨pa, pc, rfl, hP⟩
    obtain ⟨N, hN⟩ : ∃ N, N = wayN exW ⟨#[98]⟩ := ⟨_, rfl⟩
    rw [← hN] at hP ⊢
    have HNN := Lib.hid hN
    have HP3 := Lib.hid hP.rd
    have HE3 := Lib.hid (HE2.out.trans hP.ext)
    have HB3 := Lib.hid (HB2.out.keeps hP.ext (fun h => h))
    have HL3 := Lib.hid (HL2.out.ext hP.ext)
    have HS3 := Lib.hid (HS2.out.ext hP.ext)
    clear hbd hP HE2 HB2 HL2 HS2 hN
    obtain ⟨nn, hnn⟩ : ∃ nn, nn = N.length := ⟨_, rfl⟩
    rw [← hnn] at HP3 ⊢
    have HNL := Lib.hid hnn
    clear hnn
    go_wp2_with fail
    have hgN : GetAll w3 N := by rw [HNN.out]; exact way_get w3 exW_ok _
    have hvf := verify_c w3 (HC.out.ext HE3.out) rx ⟨#[98]⟩ (by decide) _ N HP3.out hgN
    have hpr : proveR rx ⟨#[98]⟩ N = (some ⟨#[50]⟩, true) := by rw [HRX.out, HNN.out, prove_map w3 exW_ok, exW_b]
    rw [hpr] at hvf
    have HPR := Lib.hid hpr
    refine hvf.mono ?_
    rintro e w4 ⟨rfl, hE⟩
    have HP4 := Lib.hid (HP3.out.ext hE)
    have HE4 := Lib.hid (HE3.out.trans hE)
    have HB4 := Lib.hid (HB3.out.keeps hE (fun h => h))
    have HL4 := Lib.hid (HL3.out.ext hE)
    have HS4 := Lib.hid (HS3.out.ext hE)
    clear hvf hE hgN hpr HP3 HE3 HB3 HL3 HS3
    have e2 : verV (some ⟨#[50]⟩, true) = .tuple #[.agg (clmL (some ⟨#[50]⟩)).toArray, .int .i64 0] := rfl
    rw [e2]
    clear e2
    go_wp2_with (first | (refine wpList_new Tryz.allocClaim rfl rfl ?_; intro W5 hB5 hE5) | (refine wpList_fill (old := clmL none) (vs := clmL (some ⟨#[50]⟩)) rfl rfl rfl rfl hB5 rfl (by rw [clm_len]; exact Tryz.szClaim) (clm_one _) ?_; intro W6 hB6 hE6))
    have HE6 := Lib.hid (HE4.out.trans (hE5.trans' hE6 (fun x hx e => by have e : x = w4.heap.size := e; omega)))
    have hX6 : Ext w4 W6 := hE5.trans' hE6 (fun x hx e => by have e : x = w4.heap.size := e; omega)
    have HP6 := Lib.hid (HP4.out.ext hX6)
    have HL6 := Lib.hid (HL4.out.ext hX6)
    have HS6 := Lib.hid (HS4.out.ext hX6)
    have HB6 := Lib.hid (HB4.out.keeps hX6 (fun h => h))
    have HC6 := Lib.hid hB6
    obtain ⟨cb, hcb⟩ : ∃ cb, cb = w4.heap.size := ⟨_, rfl⟩
    rw [← hcb] at HC6 ⊢
    clear hcb hB5 hE5 hB6 hE6 hX6 HE4 HP4 HL4 HS4 HB4
    have hvf := verify_c W6 (HC.out.ext HE6.out) rx ⟨#[98]⟩ (by decide) (.slice none 0 0) [] (.inl ⟨none, 0, rfl, rfl⟩) (fun t ht => by cases ht)
    have e2 : verV (proveR rx ⟨#[98]⟩ []) = .tuple #[.agg (clmL none).toArray, .int .i64 10] := rfl
    rw [e2] at hvf
    clear e2
    refine hvf.mono ?_
    rintro e w7 ⟨rfl, hE⟩
    clear hvf
    go_wp2_with (first | (refine wpList_new Tryz.allocClaim rfl rfl ?_; intro W8 hB8 hE8) | (refine wpList_fill (old := clmL none) (vs := clmL none) rfl rfl rfl rfl hB8 rfl (by rw [clm_len]; exact Tryz.szClaim) (clm_one _) ?_; intro W9 hB9 hE9))
    have hX9 : Ext W6 W9 := hE.trans (hE8.trans' hE9 (fun x hx e => by have e : x = w7.heap.size := e; omega))
    have HE9 := Lib.hid (HE6.out.trans hX9)
    have HP9 := Lib.hid (HP6.out.ext hX9)
    have HL9 := Lib.hid (HL6.out.ext hX9)
    have HS9 := Lib.hid (HS6.out.ext hX9)
    have HB9 := Lib.hid (HB6.out.keeps hX9 (fun h => h))
    have HC9 := Lib.hid (HC6.out.keeps hX9 (fun h => h))
    obtain ⟨cc, hcc⟩ : ∃ cc, cc = w7.heap.size := ⟨_, rfl⟩
    rw [← hcc]
    clear hcc hE hB8 hE8 hB9 hE9 hX9 HE6 HP6 HL6 HS6 HB6 HC6
    have hno : atL S (⟨#[63]⟩ : ByteArray).data.toList = none := by
      cases ha : atL S (⟨#[63]⟩ : ByteArray).data.toList with
      | none => rfl
      | some y =>
        obtain ⟨t, _, ht⟩ := (HM.out.2 _).1 (has_iff.1 (show (atL S (⟨#[63]⟩ : ByteArray).data.toList).isSome = true by rw [ha]; rfl))
        have h1 := congrArg List.length ht
        have h2 : (ky t).length = 32 := shaB_size t
        rw [h2] at h1; cases h1
    refine (build11_no W9 s bm 2000 S HS9.out ⟨#[63]⟩ ⟨#[98]⟩ hno).mono ?_
    rintro e w10 ⟨rfl, hE⟩
    have HE10 := Lib.hid (HE9.out.trans hE)
    have HP10 := Lib.hid (HP9.out.ext hE)
    have HL10 := Lib.hid (HL9.out.ext hE)
    have HB10 := Lib.hid (HB9.out.keeps hE (fun h => h))
    have HC10 := Lib.hid (HC9.out.keeps hE (fun h => h))
    clear hno hE HE9 HP9 HL9 HS9 HB9 HC9
    go_wp2_with fail
    have hex := extract_c w10 (HC.out.ext HE10.out) _ _ exW ⟨#[98]⟩ N HL10.out HP10.out (by decide) (by decide) (fun p hp => by
      have : ∀ p ∈ exW, p.1.size ≤ 9223372036854775807 ∧ p.2.size ≤ 9223372036854775807 := by decide
      exact this p hp) (by rw [HNN.out]; have := wayN_len exW ⟨#[98]⟩; omega) (by rw [HNN.out]; exact way_get w10 exW_ok _)
    have e3 : extN exW ⟨#[98]⟩ N = none := by
      have hpr := HPR.out
      rw [HRX.out] at hpr
      unfold extN
      rw [if_neg (fun h => h exW_ok), hpr, exW_b, if_neg (fun h => h.2 rfl)]
    rw [e3] at hex
    refine hex.mono ?_
    rintro e w11 ⟨rfl, hE⟩
    have HE11 := Lib.hid (HE10.out.trans hE)
    have HL11 := Lib.hid (HL10.out.ext hE)
    have HB11 := Lib.hid (HB10.out.keeps hE (fun h => h))
    have HC11 := Lib.hid (HC10.out.keeps hE (fun h => h))
    clear hex e3 hE HE10 HP10 HL10 HB10 HC10
    unfold clashV
    have q0 := HB11.out.cell (i := 0) (v := .bool false) (by rfl)
    have c0 := HC11.out.cell (i := 0) (v := .bool true) (by rfl)
    have c1 := HC11.out.cell (i := 1) (v := .string ⟨#[50]⟩) (by rfl)
    have he2 : ((⟨#[50]⟩ : ByteArray).toList == (⟨#[50]⟩ : ByteArray).toList) = true := by simp
    have he0 : ((⟨#[]⟩ : ByteArray).toList == (⟨#[]⟩ : ByteArray).toList) = true := by simp
    go_wp2_with (refine wpList_load_known 47 (.tmp 8) rfl rfl _ _ rfl (run_load_clm HC11.out) ?_)
    have hh := holds_c w11 _ exW ⟨#[98]⟩ (some ⟨#[50]⟩) HL11.out (by decide)
    rw [exW_b, decide_eq_true rfl] at hh
    refine hh.mono ?_
    rintro e w12 ⟨rfl, hE⟩
    have HE12 := Lib.hid (HE11.out.trans hE)
    have HL12 := Lib.hid (HL11.out.ext hE)
    have HC12 := Lib.hid (HC11.out.keeps hE (fun h => h))
    clear hh hE q0 c0 c1 HE11 HL11 HB11 HC11
    go_wp2_with (refine wpList_load_known 47 (.tmp 8) rfl rfl _ _ rfl (run_load_clm HC12.out) ?_)
    have hh := holds_c w12 _ exW ⟨#[97]⟩ (some ⟨#[50]⟩) HL12.out (by decide)
    rw [exW_a, decide_eq_false (by decide)] at hh
    refine hh.mono ?_
    rintro e w13 ⟨rfl, hE⟩
    have HE13 := Lib.hid (HE12.out.trans hE)
    clear hh hE
    go_wp2_with fail
    go_ret
    exact ⟨rfl, HE13.out⟩
end
end Go.Proofs.YtjogjmffkmfmbaaGreatDoor
/- A proof's run, plain: what its next node's hash is; all of it; whether it is true. -/
namespace Go.Proofs.YtjogjmffkmfmbaaGreatDoor
section
open Go Go.RowKit
set_option linter.unusedSimpArgs false
set_option linter.unusedVariables false
theorem textB_inj32 {a b : ByteArray} (h : textB (shaB a) = textB (shaB b)) : shaB a = shaB b := textH_inj (shaB_size a) (shaB_size b) h
theorem runN_small {f : Nat} {ts : List ByteArray} {n : NodeT} {p r q : ByteArray} (hs : stepN n p = (r, q)) (h0 : r.size ≠ 0) (h1 : r.size < 32) : runN (f + 1) ts n p = ((n, p) :: (runN f ts (nodeOf r) q).1, (runN f ts (nodeOf r) q).2) := by
  rw [runN_succ, hs]
  exact (if_neg h0).trans (if_pos h1)
theorem runN_nil {f : Nat} {n : NodeT} {p r q : ByteArray} (hs : stepN n p = (r, q)) (h0 : r.size ≠ 0) (h1 : ¬ r.size < 32) : runN (f + 1) [] n p = ([(n, p)], [], false) := by
  rw [runN_succ, hs]
  exact (if_neg h0).trans (if_neg h1)
theorem runN_yes {f : Nat} {t : ByteArray} {ts : List ByteArray} {n m : NodeT} {p r q : ByteArray} (hs : stepN n p = (r, q)) (h0 : r.size ≠ 0) (h1 : ¬ r.size < 32) (ht : textB (shaB t) = r) (hm : getN t = some m) : runN (f + 1) (t :: ts) n p = ((n, p) :: (runN f ts m q).1, (runN f ts m q).2) := by
  rw [runN_succ, hs]
  refine (if_neg h0).trans ((if_neg h1).trans ?_)
  show (if textB (shaB t) = r then match getN t with
          | some m => ((n, p) :: (runN f ts m q).1, (runN f ts m q).2)
          | none => ([(n, p)], t :: ts, false)
        else ([(n, p)], t :: ts, false)) = _
  rw [if_pos ht, hm]
theorem runN_no {f : Nat} {t : ByteArray} {ts : List ByteArray} {n : NodeT} {p r q : ByteArray} (hs : stepN n p = (r, q)) (h0 : r.size ≠ 0) (h1 : ¬ r.size < 32) (ht : textB (shaB t) ≠ r) : runN (f + 1) (t :: ts) n p = ([(n, p)], t :: ts, false) := by
  rw [runN_succ, hs]
  refine (if_neg h0).trans ((if_neg h1).trans ?_)
  show (if textB (shaB t) = r then match getN t with
          | some m => ((n, p) :: (runN f ts m q).1, (runN f ts m q).2)
          | none => ([(n, p)], t :: ts, false)
        else ([(n, p)], t :: ts, false)) = _
  rw [if_neg ht]
theorem run_nextW (w : World) : ∀ (f : Nat) (l : List Pair) (p : ByteArray) (k : Nat) (ts : List ByteArray), RowsOk f l → validN p = true → p.size ≤ k → (runN k ts (nodeF (buildT f) l) p).2.2 = true →
    ∀ j x, (wayL f l p)[j]? = some x → ts.take j = (wayL f l p).take j → ∃ t, ts[j]? = some t ∧ shaB t = shaB x := by
  intro f
  induction f with
  | zero => intro l p k ts h hp hk hok j x hx; simp [wayL] at hx
  | succ f ih =>
    intro l p k ts h hp hk hok j x hx ht
    cases hg : goL l p with
    | none => rw [way_none hg] at hx; simp at hx
    | some mq =>
      obtain ⟨m, q⟩ := mq
      have hK := go_some h hp hg
      obtain ⟨k, rfl⟩ : ∃ j, k = j + 1 := ⟨k - 1, by have := hK.less; omega⟩
      have hpos := ref_pos hK.rows hK.ne
      have hst := (good f m hK.rows).2.1 hK.ne
      have hIs : IsNode (buildT (f + 1) m).text (nodeF (buildT f) m) := ⟨rfl, f, hst.good⟩
      rw [way_some hg] at hx ht
      by_cases hs : (buildT (f + 1) m).text.size < 32
      · have hb : bigs (buildT (f + 1) m).text = [] := by unfold bigs; rw [if_pos hs]
        rw [hb, List.nil_append] at hx ht
        have e := refB_small hs
        rw [runN_small hK.step hpos (by rw [e]; exact hs), e, isNode_inj w (nodeOf_is hIs) hIs] at hok
        exact ih m q k ts hK.rows hK.valid (by have := hK.less; omega) hok j x hx ht
      · have hb : bigs (buildT (f + 1) m).text = [(buildT (f + 1) m).text] := by unfold bigs; rw [if_neg hs]
        rw [hb] at hx ht
        have e := refB_big hs
        have e33 : ¬ (refB (buildT (f + 1) m).text).size < 32 := by rw [ref33 hs]; omega
        cases ts with
        | nil => rw [runN_nil hK.step hpos e33] at hok; cases hok
        | cons t ts =>
          by_cases he : textB (shaB t) = refB (buildT (f + 1) m).text
          · cases j with
            | zero =>
              have hx : some (buildT (f + 1) m).text = some x := hx
              obtain rfl := Option.some.inj hx
              rw [e] at he
              exact ⟨t, rfl, textB_inj32 he⟩
            | succ j =>
              have ht : t :: ts.take j = (buildT (f + 1) m).text :: (wayL f m q).take j := ht
              obtain ⟨rfl, ht2⟩ := List.cons.inj ht
              rw [runN_yes hK.step hpos e33 he (getN_is w hIs)] at hok
              exact ih m q k ts hK.rows hK.valid (by have := hK.less; omega) hok j x hx ht2
          · rw [runN_no hK.step hpos e33 he] at hok; cases hok
/-- A proof that is believed. -/
theorem prove_next (w : World) {l : List Pair} (h : checkN l = 0) {key : ByteArray} {ts : List ByteArray} (hok : (proveR (shaB (trieT l).text) key ts).2 = true) {j : Nat} {x : ByteArray} (hx : (wayN l key)[j]? = some x) (ht : ts.take j = (wayN l key).take j) : ∃ t, ts[j]? = some t ∧ shaB t = shaB x := by
  have hr := rows_ok (check_ok h)
  have hp := path_nib key
  unfold proveR at hok
  by_cases h40 : 40 < ts.length
  · rw [if_pos h40] at hok; cases hok
  rw [if_neg h40] at hok
  have hok : ((proveN (shaB (trieT l).text) (pathB key) ts).2.2 && (proveN (shaB (trieT l).text) (pathB key) ts).2.1.isEmpty) = true := hok
  rw [Bool.and_eq_true] at hok
  obtain ⟨hok, _⟩ := hok
  cases ts with
  | nil => cases hok
  | cons t ts =>
    unfold proveN at hok
    have hok : (if shaB t = shaB (trieT l).text then match getN t with
      | some n => runN (pathB key).size ts n (pathB key)
      | none => ([], t :: ts, false)
    else ([], t :: ts, false)).2.2 = true := hok
    by_cases he : shaB t = shaB (trieT l).text
    · rw [if_pos he] at hok
      cases j with
      | zero =>
        have hx : some (trieT l).text = some x := hx
        obtain rfl := Option.some.inj hx
        exact ⟨t, rfl, he⟩
      | succ j =>
        have ht : t :: ts.take j = (trieT l).text :: (wayL 12 (rowsL l) (pathB key)).take j := ht
        obtain ⟨rfl, ht2⟩ := List.cons.inj ht
        have hIs : IsNode (trieT l).text (nodeF (buildT 12) (rowsL l)) := ⟨rfl, 12, (good 12 _ hr).1⟩
        rw [getN_is w hIs] at hok
        exact run_nextW w 12 (rowsL l) (pathB key) _ ts hr hp (Nat.le_refl _) hok j x hx ht2
    · rw [if_neg he] at hok; cases hok
theorem prove_rest (w : World) {l : List Pair} (h : checkN l = 0) {key : ByteArray} {ts : List ByteArray} (hok : (proveR (shaB (trieT l).text) key (wayN l key ++ ts)).2 = true) : ts = [] := by
  have hr := rows_ok (check_ok h)
  unfold proveR at hok
  by_cases h40 : 40 < (wayN l key ++ ts).length
  · rw [if_pos h40] at hok; cases hok
  rw [if_neg h40] at hok
  have hok : ((proveN (shaB (trieT l).text) (pathB key) (wayN l key ++ ts)).2.2 && (proveN (shaB (trieT l).text) (pathB key) (wayN l key ++ ts)).2.1.isEmpty) = true := hok
  rw [Bool.and_eq_true] at hok
  obtain ⟨_, hok⟩ := hok
  have hIs : IsNode (trieT l).text (nodeF (buildT 12) (rowsL l)) := ⟨rfl, 12, (good 12 _ hr).1⟩
  have e : proveN (shaB (trieT l).text) (pathB key) (wayN l key ++ ts) = runN (pathB key).size (wayL 12 (rowsL l) (pathB key) ++ ts) (nodeF (buildT 12) (rowsL l)) (pathB key) := by
    unfold wayN proveN
    show (if shaB (trieT l).text = shaB (trieT l).text then match getN (trieT l).text with
      | some n => runN (pathB key).size (wayL 12 (rowsL l) (pathB key) ++ ts) n (pathB key)
      | none => _
    else _) = _
    rw [if_pos rfl, getN_is w hIs]
  rw [e, (run_way w 12 (rowsL l) (pathB key) _ ts hr (path_nib key) (Nat.le_refl _)).1] at hok
  exact List.isEmpty_iff.1 hok
end
end Go.Proofs.YtjogjmffkmfmbaaGreatDoor
/- node: readPair of any two texts. -/
namespace Go.Proofs.YtjogjmffkmfmbaaGreatDoor
section
open Go Go.RowKit
set_option linter.unusedSimpArgs false
set_option linter.unusedVariables false
/-- What readPair reads. -/
def pairC (g : ByteArray × Bool × Bool) (o : Option ByteArray) (y : ByteArray) : NodeT × Bool :=
  if g.2.2 = true then
    if g.2.1 = true then (⟨1, g.1, o.getD ⟨#[]⟩, noRefs 16⟩, o.isSome) else (⟨2, g.1, ⟨#[]⟩, y :: noRefs 15⟩, true)
  else (emptyN, false)
def pairN (x y : ByteArray) : NodeT × Bool := match plainA x with
  | none => (emptyN, false)
  | some b => pairC (ngetN b) (plainA y) y
def PairR (y : ByteArray) (m : NodeT) : Prop := (∃ p v, m = ⟨1, p, v, noRefs 16⟩ ∧ validN p = true ∧ p.size ≤ 1000000 ∧ v.size ≤ 1000000) ∨ (∃ p, m = ⟨2, p, ⟨#[]⟩, y :: noRefs 15⟩ ∧ validN p = true ∧ p.size ≤ 1000000)
def PairP (w : World) (x y : ByteArray) (e : Ending) (w' : World) : Prop := e = .returned (.tuple #[(pairN x y).1.V, .bool (pairN x y).2]) ∧ Ext w w'
theorem plainA_size {s b : ByteArray} (h : plainA s = some b) : b.size ≤ s.size := by
  unfold plainA at h
  split at h
  · unfold plainB at h
    split at h
    · obtain rfl := Option.some.inj h
      rw [ByteArray.size_extract]; omega
    · cases h
  · cases h
theorem pairN_len (x y : ByteArray) : (pairN x y).1.refs.length = 16 := by
  unfold pairN
  split
  · rfl
  · unfold pairC
    split
    · split <;> rfl
    · rfl
theorem pairN_ok {x y : ByteArray} (hx : x.size ≤ 500000) (hy : y.size ≤ 1000000) (h : (pairN x y).2 = true) : PairR y (pairN x y).1 := by
  unfold pairN at h ⊢
  split at h
  · cases h
  · rename_i b hb
    have hbs := plainA_size hb
    obtain ⟨h1, h2⟩ := ngetN_ok b
    unfold pairC at h ⊢
    split at h
    · rename_i h3
      rw [if_pos h3]
      split at h
      · rename_i h4
        rw [if_pos h4]
        cases hv : plainA y with
        | none => rw [hv] at h; cases h
        | some v => exact .inl ⟨_, v, rfl, h1, by omega, by have := plainA_size hv; omega⟩
      · rename_i h4
        rw [if_neg h4]
        exact .inr ⟨_, rfl, h1, by omega⟩
    · cases h
set_option maxRecDepth 100000 in
set_option maxHeartbeats 2000000 in
theorem pair_noput (w : World) (x y : ByteArray) (hx : x.size ≤ 1000000) (h : plainA x = none) : Calls Tryz.prog 132 #[.string x, .string y] w (PairP w x y) := by
  have HH := Lib.hid h
  clear h
  go_enter Tryz.func132, Tryz.ntmps132
  go_wp2_with (refine wpList_new Tryz.allocNode rfl rfl ?_; intro W1 hB1 hE1)
  refine (plain_any _ x (by omega)).mono ?_
  rintro e w2 ⟨rfl, hE⟩
  rw [HH.out]
  have hB2 := hB1.keeps hE (fun h => h)
  have HE2 := Lib.hid (hE1.trans hE)
  clear hB1 hE1 hE
  unfold optV
  simp only
  go_wp2_with (refine wpList_fill (vs := emptyN.cells) rfl rfl rfl rfl hB2 rfl Tryz.szNode (NodeT.one _) ?_; intro W8 hB8 hE8)
  refine bodyPost_ret (results_cell_tmp rfl rfl rfl (run_loadVar_api W8 _ emptyN rfl hB8)) rfl ?_
  have e : pairN x y = (emptyN, false) := by unfold pairN; rw [HH.out]
  unfold PairP
  rw [e]
  exact ⟨rfl, HE2.out.trans' hE8 (fun x hx e => by have e : x = w.heap.size := e; omega)⟩
set_option maxRecDepth 100000 in
set_option maxHeartbeats 4000000 in
theorem pair_put (w : World) (x y b : ByteArray) (hx : x.size ≤ 1000000) (hy : y.size ≤ 1000000) (h : plainA x = some b) : Calls Tryz.prog 132 #[.string x, .string y] w (PairP w x y) := by
  have hb := plainA_size h
  have HH := Lib.hid h
  obtain ⟨g, hg⟩ : ∃ g, g = ngetN b := ⟨_, rfl⟩
  obtain ⟨o, ho⟩ : ∃ o, o = plainA y := ⟨_, rfl⟩
  have HP : PairP w x y = fun e w' => e = .returned (.tuple #[(pairC g o y).1.V, .bool (pairC g o y).2]) ∧ Ext w w' := by unfold PairP pairN; rw [h, hg, ho]
  rw [HP]
  have HG := Lib.hid hg
  have HO := Lib.hid ho
  clear h hg HP ho
  obtain ⟨p, leaf, ok⟩ := g
  unfold pairC
  simp only
  go_enter Tryz.func132, Tryz.ntmps132
  go_wp2_with (refine wpList_new Tryz.allocNode rfl rfl ?_; intro W1 hB1 hE1)
  refine (plain_any _ x (by omega)).mono ?_
  rintro e w2 ⟨rfl, hE⟩
  rw [HH.out]
  have HE2 := Lib.hid (hE1.trans hE)
  have HB2 := Lib.hid (hB1.keeps hE (fun h => h))
  clear hB1 hE1 hE
  unfold optV
  simp only
  go_wp2_with fail
  refine (nget_any _ b (by omega)).mono ?_
  rintro e w3 ⟨rfl, hE⟩
  rw [← HG.out]
  simp only
  have HE3 := Lib.hid (HE2.out.trans hE)
  have HB3 := Lib.hid (HB2.out.keeps hE (fun h => h))
  clear hE HE2 HB2
  cases ok with
  | false =>
    have hB3 := HB3.out
    go_wp2_with (refine wpList_fill (vs := emptyN.cells) rfl rfl rfl rfl hB3 rfl Tryz.szNode (NodeT.one _) ?_; intro W8 hB8 hE8)
    refine bodyPost_ret (results_cell_tmp rfl rfl rfl (run_loadVar_api W8 _ emptyN rfl hB8)) rfl ?_
    exact ⟨rfl, HE3.out.trans' hE8 (fun x hx e => by have e : x = w.heap.size := e; omega)⟩
  | true =>
    cases leaf with
    | true =>
      go_wp2_with fail
      refine (plain_any _ y (by omega)).mono ?_
      rintro e w4 ⟨rfl, hE⟩
      have HE4 := Lib.hid (HE3.out.trans hE)
      have hB4 := HB3.out.keeps hE (fun h => h)
      clear hE HE3 HB3
      rw [← HO.out]
      cases o with
      | none =>
        unfold optV
        simp only
        go_wp2_with (refine wpList_fill (vs := cells19 1 p ⟨#[]⟩ ⟨#[]⟩) rfl rfl rfl rfl hB4 rfl Tryz.szNode (cells19_one _ _ _ _) ?_; intro W5 hB5 hE5)
        refine bodyPost_ret (results_cell_tmp rfl rfl rfl (run_loadVar_api W5 _ ⟨1, p, ⟨#[]⟩, noRefs 16⟩ rfl hB5)) rfl ?_
        exact ⟨rfl, HE4.out.trans' hE5 (fun x hx e => by have e : x = w.heap.size := e; omega)⟩
      | some v =>
        unfold optV
        simp only
        go_wp2_with (refine wpList_fill (vs := cells19 1 p v ⟨#[]⟩) rfl rfl rfl rfl hB4 rfl Tryz.szNode (cells19_one _ _ _ _) ?_; intro W5 hB5 hE5)
        refine bodyPost_ret (results_cell_tmp rfl rfl rfl (run_loadVar_api W5 _ ⟨1, p, v, noRefs 16⟩ rfl hB5)) rfl ?_
        exact ⟨rfl, HE4.out.trans' hE5 (fun x hx e => by have e : x = w.heap.size := e; omega)⟩
    | false =>
      go_wp2_with (first | (refine wpList_new Tryz.allocNode rfl rfl ?_; intro W5 hB5 hE5; refine wpList_fill (vs := cells19 2 p ⟨#[]⟩ ⟨#[]⟩) rfl rfl rfl rfl hB5 rfl Tryz.szNode (cells19_one _ _ _ _) ?_; intro W6 hB6 hE6; have q3 : W6.cell? ⟨w3.heap.size, 3, none⟩ = some (.string ⟨#[]⟩) := hB6.cell (i := 3) (by rfl); have f3 : W6.frozen? ⟨w3.heap.size, 3, none⟩ = false := hB6.frozen; have HB7 := Lib.hid (hB6.set_same (i := 3) (.string y))) | (refine wpList_load_known 108 (.tmp 10) rfl rfl _ _ rfl (run_load_api _ _ ⟨2, p, ⟨#[]⟩, y :: noRefs 15⟩ rfl HB7.out) ?_; refine wpList_fill (vs := NodeT.cells ⟨2, p, ⟨#[]⟩, y :: noRefs 15⟩) rfl rfl rfl rfl (((HB3.out.keeps hE5 (fun h => h)).keeps hE6 (by have := HB3.out.lt; omega)).set_other (p := ⟨w3.heap.size, 3, none⟩) (by have := HB3.out.lt; show w.heap.size ≠ w3.heap.size; omega) (.string y)) rfl Tryz.szNode (NodeT.one _) ?_; intro W8 hB8 hE8))
      refine bodyPost_ret (results_cell_tmp rfl rfl rfl (run_loadVar_api W8 _ ⟨2, p, ⟨#[]⟩, y :: noRefs 15⟩ rfl hB8)) rfl ?_
      have k1 : Ext w3 (W6.setCell ⟨w3.heap.size, 3, none⟩ (.string y)) := (hE5.trans' hE6 (fun x hx e => by have e : x = w3.heap.size := e; omega)).setCell (.inr (Nat.le_refl _)) _
      exact ⟨rfl, (HE3.out.trans k1).trans' hE8 (fun x hx e => by have e : x = w.heap.size := e; omega)⟩
theorem pair_any (w : World) (x y : ByteArray) (hx : x.size ≤ 1000000) (hy : y.size ≤ 1000000) : Calls Tryz.prog 132 #[.string x, .string y] w (PairP w x y) := by
  cases h : plainA x with
  | none => exact pair_noput w x y hx h
  | some b => exact pair_put w x y b hx hy h
end
end Go.Proofs.YtjogjmffkmfmbaaGreatDoor
/- node: readBranch of any seventeen items. -/
namespace Go.Proofs.YtjogjmffkmfmbaaGreatDoor
section
open Go Go.RowKit
set_option linter.unusedSimpArgs false
set_option linter.unusedVariables false
def branchY (rs : List ByteArray) (z : ByteArray) : List ByteArray := rs.map (fun r => if r.size = 0 then textB ⟨#[]⟩ else r) ++ [z]
def BranchP (w : World) (rs : List ByteArray) (z : ByteArray) (e : Ending) (w' : World) : Prop := RdNo w e w' ∨ ∃ v, plainA z = some v ∧ e = .returned (.tuple #[(⟨3, ⟨#[]⟩, v, rs⟩ : NodeT).V, .bool true]) ∧ Ext w w'
set_option maxRecDepth 100000 in
set_option maxHeartbeats 2000000 in
theorem branch_put (w : World) (a : Value) (rs : List ByteArray) (z : ByteArray) (hr : rs.length = 16) (hz : z.size ≤ 1000000) (hne : ∀ r ∈ rs, r.size ≠ 0 → r ≠ textB ⟨#[]⟩) (ha : RdS w a (branchY rs z)) : Calls Tryz.prog 133 #[a] w (BranchP w rs z) := by
  have hxl : (branchY rs z).length = 17 := by simp [branchY, hr]
  rcases ha with ⟨_, _, _, h0⟩ | ⟨b, o, c, rfl, hb, hc, hcell⟩
  · rw [h0] at hxl; cases hxl
  rw [hxl] at hc ⊢
  have hit : ∀ (k : Nat) r, rs[k]? = some r → w.cell? ⟨b, o + k, none⟩ = some (.string (if r.size = 0 then textB ⟨#[]⟩ else r)) := fun k r hk => hcell k _ (by
    unfold branchY
    rw [List.getElem?_append_left (by rw [List.length_map]; exact (List.getElem?_eq_some_iff.1 hk).1), List.getElem?_map, hk]; rfl)
  have hiv : w.cell? ⟨b, o + 16, none⟩ = some (.string z) := hcell 16 _ (by
    unfold branchY
    rw [List.getElem?_append_right (by rw [List.length_map]; omega), List.length_map, hr]; rfl)
  have HIT := Lib.hid hit
  have HIV := Lib.hid hiv
  have HR := Lib.hid hr
  have HNE := Lib.hid hne
  clear hit hiv hxl hcell hr hne
  go_enter Tryz.func133, Tryz.ntmps133
  go_wp2_with (first | (refine wpList_new Tryz.allocNode rfl rfl ?_; intro W3 hB3 hE3; refine wpList_fill (vs := cells19 3 ⟨#[]⟩ ⟨#[]⟩ ⟨#[]⟩) rfl rfl rfl rfl hB3 rfl Tryz.szNode (cells19_one _ _ _ _) ?_; intro W4 hB4 hE4) | (refine wpList_new Tryz.allocNode rfl rfl ?_; intro W1 hB1 hE1))
  have h4 : Ext w W4 := (hE1.trans hE3).trans' hE4 (fun x hx e => by have e : x = W1.heap.size := e; have := hE1.size; omega)
  have h5 := (hB1.keeps hE3 (fun h => h)).keeps hE4 (by have := hB1.lt; omega)
  obtain ⟨g4, hg4⟩ : ∃ g, g = W1.heap.size := ⟨_, rfl⟩
  obtain ⟨g2, hg2⟩ : ∃ g, g = w.heap.size := ⟨_, rfl⟩
  have n24 : g2 < g4 := by have := hB1.lt; omega
  have n2 : w.heap.size ≤ g2 := by omega
  rw [← hg4] at hB4 ⊢
  rw [← hg2] at h5 ⊢
  have HE4 := Lib.hid h4
  have HB4 := Lib.hid hB4
  have H5 := Lib.hid h5
  clear hg4 hg2 h4 h5 hB4 hE1 hB1 hB3 hE3 hE4
  go_loopw [9] (fun i wr => BrdRel w g2 g4 rs i wr) (fun i _ => 16 - (intOf i).toNat)
  case atStart => exact ⟨0, by omega, rfl, HE4.out, H5.out, HB4.out⟩
  case round =>
    obtain ⟨k, hk, rfl, hE, hB2, hB4⟩ := hrel
    have HE := Lib.hid hE
    have HB2 := Lib.hid hB2
    have HB4 := Lib.hid hB4
    clear hE hB2 hB4
    by_cases hlt : k < 16
    · obtain ⟨r, hri⟩ : ∃ r, rs[k]? = some r := ⟨_, List.getElem?_eq_getElem (by have := HR.out; omega)⟩
      have qx := cell_ext (HIT.out k r hri) HE.out
      have b1 : (k : Int) < 17 := by omega
      have hmem : r ∈ rs := List.mem_of_getElem? hri
      obtain ⟨em, hem⟩ : ∃ em, em = textB ⟨#[]⟩ := ⟨_, rfl⟩
      rw [← hem] at qx
      have HEM := Lib.hid hem
      have HRI := Lib.hid hri
      clear hem hri
      by_cases h0 : r.size = 0
      · rw [if_pos h0] at qx
        have QX := Lib.hid qx
        clear qx
        go_wp2_with fail
        refine wp_region_mixK [0,1,2,3,4,5] Ext ExtR ExtT (by kernel_rfl) (by kernel_rfl) (by kernel_rfl) ?_
        iterate 3 (refine mixk_pure _ rfl (by kernel_rfl) rfl rfl (fun K hK => ?_); go_big_quiet_op; refine hK _ ?_; clear hK K)
        refine mixk_load ⟨b, o + k, none⟩ _ rfl (by kernel_rfl) rfl rfl (fun w2 h2 => run_load_plain Tryz.uStr rfl (cell_ext (by exact QX.out) h2)) ?_
        simp only [Act.put, List.setIfInBounds_toArray, List.set_cons_zero, List.set_cons_succ]
        refine mixk_call _ 129 #[.string ⟨#[]⟩] (.string em) rfl (by kernel_rfl) rfl (fun w1 => exec_call Tryz.enterText (by kernel_rfl)) (fun w1 h1 => by rw [HEM.out]; exact text_c w1 ⟨#[]⟩ (by decide)) ?_
        simp only [Act.put, List.setIfInBounds_toArray, List.set_cons_zero, List.set_cons_succ]
        iterate 1 (refine mixk_pure _ rfl (by kernel_rfl) rfl rfl (fun K hK => ?_); go_big_quiet_op; refine hK _ ?_; clear hK K)
        refine mixk_end (by kernel_rfl) (fun w3 he => ?_)
        have hX := (drewE wr).trans he
        have HE3 := Lib.hid (HE.out.trans hX)
        have HB3 := Lib.hid (HB2.out.keeps hX (fun h => h))
        have HB5 := Lib.hid (HB4.out.keeps hX (fun h => h))
        clear he hX
        go_wp2_with fail
        go_roundw
        case rel => exact ⟨k + 1, by omega, by go_num, HE3.out, HB3.out, by rw [brN_skip HR.out hlt r HRI.out h0]; exact HB5.out⟩
        case measure => simp [intOf]; omega
      · rw [if_neg h0] at qx
        have hq : (r.toList == em.toList) = false := by
          rw [beq_eq_false_iff_ne, ByteArray.toList_eq, ByteArray.toList_eq]
          intro e
          exact HNE.out r hmem h0 (by rw [← HEM.out]; exact ByteArray.ext (Array.ext' e))
        have QX := Lib.hid qx
        clear qx
        go_wp2_with fail
        refine wp_region_mixK [0,1,2,3,4,5] Ext ExtR ExtT (by kernel_rfl) (by kernel_rfl) (by kernel_rfl) ?_
        iterate 3 (refine mixk_pure _ rfl (by kernel_rfl) rfl rfl (fun K hK => ?_); go_big_quiet_op; refine hK _ ?_; clear hK K)
        refine mixk_load ⟨b, o + k, none⟩ _ rfl (by kernel_rfl) rfl rfl (fun w2 h2 => run_load_plain Tryz.uStr rfl (cell_ext (by exact QX.out) h2)) ?_
        simp only [Act.put, List.setIfInBounds_toArray, List.set_cons_zero, List.set_cons_succ]
        refine mixk_call _ 129 #[.string ⟨#[]⟩] (.string em) rfl (by kernel_rfl) rfl (fun w1 => exec_call Tryz.enterText (by kernel_rfl)) (fun w1 h1 => by rw [HEM.out]; exact text_c w1 ⟨#[]⟩ (by decide)) ?_
        simp only [Act.put, List.setIfInBounds_toArray, List.set_cons_zero, List.set_cons_succ]
        iterate 1 (refine mixk_pure _ rfl (by kernel_rfl) rfl rfl (fun K hK => ?_); go_big_quiet_op; refine hK _ ?_; clear hK K)
        refine mixk_end (by kernel_rfl) (fun w3 he => ?_)
        have hX := (drewE wr).trans he
        have HE3 := Lib.hid (HE.out.trans hX)
        have HB3 := Lib.hid (HB2.out.keeps hX (fun h => h))
        have HB5 := Lib.hid (HB4.out.keeps hX (fun h => h))
        have qx := cell_ext QX.out hX
        obtain ⟨old, q4⟩ : ∃ v, w3.cell? ⟨g4, 3 + k, none⟩ = some v := ⟨_, HB5.out.cellL (List.getElem?_eq_getElem (by rw [NodeT.cells_len _ (brN_len HR.out hk)]; omega))⟩
        have f4 : w3.frozen? ⟨g4, 3 + k, none⟩ = false := HB5.out.frozen
        have b2 : (k : Int) < 16 := by omega
        clear he hX
        go_wp2_with fail
        go_roundw
        case rel =>
          refine ⟨k + 1, by omega, by go_num, HE3.out.setCell (.inr (by show w.heap.size ≤ g4; omega)) _, HB3.out.set_other (p := ⟨g4, 3 + k, none⟩) (by show g2 ≠ g4; omega) _, ?_⟩
          have := HB5.out.set_same (i := 3 + k) (.string r)
          rw [show (brN rs k).cells.toArray.setIfInBounds (3 + k) (.string r) = ((brN rs k).cells.set (3 + k) (.string r)).toArray by simp, brN_set HR.out hlt r HRI.out] at this
          exact this
        case measure => simp [intOf]; omega
    · have hk16 : k = 16 := by omega
      subst hk16
      have qx := cell_ext HIV.out HE.out
      go_wp2_with fail
      refine (plain_any _ z (by omega)).mono ?_
      rintro e w4 ⟨rfl, hE⟩
      obtain ⟨o, ho⟩ : ∃ o, o = plainA z := ⟨_, rfl⟩
      rw [← ho]
      obtain ⟨v, hv⟩ : ∃ v, v = o.getD ⟨#[]⟩ := ⟨_, rfl⟩
      have hb4 := HB4.out.keeps hE (fun h => h)
      have q4 : w4.cell? ⟨g4, 2, none⟩ = some (.string ⟨#[]⟩) := hb4.cellL (by rfl)
      have f4 : w4.frozen? ⟨g4, 2, none⟩ = false := hb4.frozen
      have HB5 := Lib.hid (hb4.set_same (i := 2) (.string v))
      have hb2 := (HB2.out.keeps hE (fun h => h)).set_other (p := ⟨g4, 2, none⟩) (by show g2 ≠ g4; omega) (.string v)
      have HB6 := Lib.hid hb2
      have HE4 := Lib.hid (HE.out.trans hE)
      have e16 : brN rs 16 = ⟨3, ⟨#[]⟩, ⟨#[]⟩, rs⟩ := by unfold brN noRefs; rw [List.take_of_length_le (by have := HR.out; omega)]; simp
      rw [e16] at HB5
      have ec : (NodeT.cells ⟨3, ⟨#[]⟩, ⟨#[]⟩, rs⟩).toArray.setIfInBounds 2 (.string v) = (NodeT.cells ⟨3, ⟨#[]⟩, v, rs⟩).toArray := by simp [NodeT.cells]
      rw [ec] at HB5
      clear hE hb4 hb2 qx ec e16
      cases o with
      | none =>
        change v = ⟨#[]⟩ at hv
        subst hv
        clear ho
        unfold optV
        go_wp2_with (first | (refine wpList_load_known 108 (.tmp 4) rfl rfl _ _ rfl (run_load_api _ _ ⟨3, ⟨#[]⟩, ⟨#[]⟩, rs⟩ HR.out HB5.out) ?_) | (refine wpList_fill (vs := NodeT.cells ⟨3, ⟨#[]⟩, ⟨#[]⟩, rs⟩) rfl rfl rfl rfl HB6.out (by rw [NodeT.cells_len ⟨3, ⟨#[]⟩, ⟨#[]⟩, rs⟩ HR.out]; rfl) (by rw [NodeT.cells_len ⟨3, ⟨#[]⟩, ⟨#[]⟩, rs⟩ HR.out]; exact Tryz.szNode) (NodeT.one _) ?_; intro W8 hB8 hE8))
        refine bodyPost_ret (results_cell_tmp rfl rfl rfl (run_loadVar_api W8 _ ⟨3, ⟨#[]⟩, ⟨#[]⟩, rs⟩ HR.out hB8)) rfl ?_
        exact .inl ⟨_, HR.out, rfl, (HE4.out.setCell (.inr (by show w.heap.size ≤ g4; omega)) _).trans' hE8 (fun x hx e => by have e : x = g2 := e; omega)⟩
      | some u =>
        change v = u at hv
        subst hv
        have HO := Lib.hid ho.symm
        clear ho
        unfold optV
        go_wp2_with (first | (refine wpList_load_known 108 (.tmp 4) rfl rfl _ _ rfl (run_load_api _ _ ⟨3, ⟨#[]⟩, v, rs⟩ HR.out HB5.out) ?_) | (refine wpList_fill (vs := NodeT.cells ⟨3, ⟨#[]⟩, v, rs⟩) rfl rfl rfl rfl HB6.out (by rw [NodeT.cells_len ⟨3, ⟨#[]⟩, v, rs⟩ HR.out]; rfl) (by rw [NodeT.cells_len ⟨3, ⟨#[]⟩, v, rs⟩ HR.out]; exact Tryz.szNode) (NodeT.one _) ?_; intro W8 hB8 hE8))
        refine bodyPost_ret (results_cell_tmp rfl rfl rfl (run_loadVar_api W8 _ ⟨3, ⟨#[]⟩, v, rs⟩ HR.out hB8)) rfl ?_
        exact .inr ⟨v, HO.out, rfl, (HE4.out.setCell (.inr (by show w.heap.size ≤ g4; omega)) _).trans' hE8 (fun x hx e => by have e : x = g2 := e; omega)⟩
/-- Any seventeen items that are not empty, as refs and what is behind them. -/
theorem branch_parts (xs : List ByteArray) (hl : xs.length = 17) (h0 : ∀ x ∈ xs, x.size ≠ 0) : ∃ rs z, xs = branchY rs z ∧ rs.length = 16 ∧ (∀ r ∈ rs, r.size ≠ 0 → r ≠ textB ⟨#[]⟩) ∧ (∀ r ∈ rs, r = ⟨#[]⟩ ∨ r ∈ xs) ∧ z ∈ xs := by
  obtain ⟨ys, z, rfl⟩ : ∃ ys z, xs = ys ++ [z] := ⟨xs.dropLast, xs.getLast (by intro e; rw [e] at hl; cases hl), (List.dropLast_concat_getLast _).symm⟩
  refine ⟨ys.map (fun x => if x = textB ⟨#[]⟩ then ⟨#[]⟩ else x), z, ?_, ?_, fun r hr h e => ?_, fun r hr => ?_, by simp⟩
  · unfold branchY
    rw [List.map_map]
    congr 1
    refine (List.map_id' ys).symm.trans (List.map_congr_left fun x hx => ?_)
    show x = if (if x = textB ⟨#[]⟩ then (⟨#[]⟩ : ByteArray) else x).size = 0 then textB ⟨#[]⟩ else (if x = textB ⟨#[]⟩ then (⟨#[]⟩ : ByteArray) else x)
    by_cases hx' : x = textB ⟨#[]⟩
    · rw [if_pos hx', if_pos (show (⟨#[]⟩ : ByteArray).size = 0 from rfl)]; exact hx'
    · rw [if_neg hx', if_neg (h0 x (by simp [hx]))]
  · rw [List.length_map]; simpa using hl
  · obtain ⟨x, _, hx⟩ := List.mem_map.1 hr
    by_cases hx' : x = textB ⟨#[]⟩
    · rw [if_pos hx'] at hx; rw [← hx] at h; exact h rfl
    · rw [if_neg hx'] at hx; rw [hx] at hx'; exact hx' e
  · obtain ⟨x, hm, hx⟩ := List.mem_map.1 hr
    by_cases hx' : x = textB ⟨#[]⟩
    · rw [if_pos hx'] at hx; exact .inl hx.symm
    · rw [if_neg hx'] at hx; rw [← hx]; exact .inr (by simp [hm])
end
end Go.Proofs.YtjogjmffkmfmbaaGreatDoor
/- node: Valid of a node that was read, whether it may be or not. -/
namespace Go.Proofs.YtjogjmffkmfmbaaGreatDoor
section
open Go Go.RowKit
set_option linter.unusedSimpArgs false
set_option linter.unusedVariables false
attribute [local go_sem] Oper.semAt_some
set_option maxRecDepth 100000 in
set_option maxHeartbeats 2000000 in
theorem valid_kb (b : Bool) (w : World) (hG : ErrT w) (n : NodeT) (hr : n.refs.length = 16) (hk : n.kind ≤ 3) (f : FuncId) (hf : [fnV 134, fnV 135, fnV 136, fnV 137][n.kind]? = some (fnV f))
    (eg : ∀ args w, (callFunc f args).run Tryz.prog w = .ok (.enter f args) w) (hc : ∀ w, ErrT w → Calls Tryz.prog f #[n.V] w fun e w' => e = .returned (.bool b) ∧ Ext w w') :
    Calls Tryz.prog 90 #[n.V] w fun e w' => e = .returned (.bool b) ∧ Ext w w' := by
  have e0 : n.cells[0]? = some (.int .i64 (n.kind : Int)) := rfl
  have c0 : ¬ (n.kind : Int) < 0 := by omega
  have c1 : ¬ (3 : Int) < (n.kind : Int) := by omega
  have c2 : (n.kind : Int) < 4 := by omega
  have HF := Lib.hid hf
  have HC := Lib.hid hc
  have HR := Lib.hid hr
  have HG := Lib.hid hG
  clear hf hc hr hG
  unfold NodeT.V
  go_enter Tryz.func90, Tryz.ntmps90
  go_wp2_with (refine wpList_new Tryz.allocTabV rfl rfl ?_; intro W1 hB1 hE1; refine wpList_fill (vs := [fnV 134, fnV 135, fnV 136, fnV 137]) rfl rfl rfl rfl hB1 rfl Tryz.szTabV (by simp [fnV, Value.oneCell']) ?_; intro W2 hB2 hE2; have q0 : W2.cell? ⟨w.heap.size, 0, none⟩ = some (.int .i64 (n.kind : Int)) := (((Blk.new w (.cells n.cells.toArray 108)).keeps hE1 (fun h => h)).keeps hE2 (by rw [World.size_alloc]; omega)).cellL e0)
  have qt : W2.cell? ⟨w.heap.size + 1, n.kind, none⟩ = some (fnV f) := by
    have := hB2.cellL HF.out
    rwa [World.size_alloc] at this
  have hbn := ((Blk.new w (.cells n.cells.toArray 108)).keeps hE1 (fun h => h)).keeps hE2 (by rw [World.size_alloc]; omega)
  have QT := Lib.hid qt
  have Q0 := Lib.hid q0
  have HBN := Lib.hid hbn
  have HE := Lib.hid ((((ExtR w).alloc (.cells n.cells.toArray 108)).trans hE1).trans' hE2 (fun x hx e => by have e : x = (w.alloc (.cells n.cells.toArray 108)).heap.size := e; rw [World.size_alloc] at e; omega))
  clear hB1 hE1 hB2 hE2 q0 qt hbn
  refine wp_region_mixK [0,1,2,3,4,5,6] Ext ExtR ExtT (by kernel_rfl) (by kernel_rfl) (by kernel_rfl) ?_
  iterate 1 (refine mixk_pure _ rfl (by kernel_rfl) rfl rfl (fun K hK => ?_); go_big_quiet_op; refine hK _ ?_; clear hK K)
  refine mixk_load ⟨w.heap.size, 0, none⟩ _ rfl (by kernel_rfl) rfl rfl (fun w2 h2 => run_load_plain Tryz.uKind rfl (cell_ext (by exact Q0.out) h2)) ?_
  simp only [Act.put, List.setIfInBounds_toArray, List.set_cons_zero, List.set_cons_succ]
  iterate 1 (refine mixk_pure _ rfl (by kernel_rfl) rfl rfl (fun K hK => ?_); go_big_quiet_op; refine hK _ ?_; clear hK K)
  refine mixk_load ⟨w.heap.size + 1, n.kind, none⟩ _ rfl (by kernel_rfl) rfl rfl (fun w2 h2 => run_load_na Tryz.aggV (cell_ext (by exact QT.out) h2)) ?_
  simp only [Act.put, List.setIfInBounds_toArray, List.set_cons_zero, List.set_cons_succ]
  refine mixk_load ⟨w.heap.size, 0, none⟩ _ rfl (by kernel_rfl) rfl rfl (fun w2 h2 => run_load_api w2 _ n HR.out (HBN.out.keeps ((drewE W2).trans h2) (fun h => h))) ?_
  simp only [Act.put, List.setIfInBounds_toArray, List.set_cons_zero, List.set_cons_succ]
  refine mixk_call _ f #[n.V] (.bool b) rfl (by kernel_rfl) rfl (fun w1 => exec_callv0 rfl eg rfl) (fun w1 h1 => HC.out w1 (HG.out.ext (HE.out.trans ((drewE W2).trans h1)))) ?_
  simp only [Act.put, List.setIfInBounds_toArray, List.set_cons_zero, List.set_cons_succ]
  iterate 1 (refine mixk_pure _ rfl (by kernel_rfl) rfl rfl (fun K hK => ?_); go_big_quiet_op; refine hK _ ?_; clear hK K)
  refine mixk_end (by kernel_rfl) (fun w3 he => ?_)
  go_wp2_with fail
  go_ret
  exact ⟨rfl, HE.out.trans ((drewE W2).trans he)⟩
set_option maxRecDepth 100000 in
set_option maxHeartbeats 1000000 in
theorem leaf_nopath (w : World) (n : NodeT) (hr : n.refs.length = 16) (hps : n.path.size ≤ 1000000) (hp : n.pathOk 0 = false) : Calls Tryz.prog 135 #[n.V] w fun e w' => e = .returned (.bool false) ∧ Ext w w' := by
  have hld := run_load_box w n hr
  have HP := Lib.hid hp
  clear hp
  unfold NodeT.V at hld ⊢
  go_enter Tryz.func135, Tryz.ntmps135
  go_wp2_with (refine wpList_load_known 154 (.tmp 1) rfl rfl _ _ rfl hld ?_)
  refine (npath_c _ n hr 0 hps).mono ?_
  rintro e w1 ⟨rfl, hE⟩
  rw [HP.out]
  have HE1 := Lib.hid (((ExtR w).alloc _).trans hE)
  clear hld hE
  go_wp2_with fail
  go_ret
  exact ⟨rfl, HE1.out⟩
set_option maxRecDepth 100000 in
set_option maxHeartbeats 1000000 in
theorem leaf_novalue (w : World) (n : NodeT) (hr : n.refs.length = 16) (hps : n.path.size ≤ 1000000) (hp : n.pathOk 0 = true) (h0 : n.value = ⟨#[]⟩) : Calls Tryz.prog 135 #[n.V] w fun e w' => e = .returned (.bool false) ∧ Ext w w' := by
  have hld := run_load_box w n hr
  have e2 : n.cells[2]? = some (.string ⟨#[]⟩) := by rw [← h0]; rfl
  have HP := Lib.hid hp
  clear hp h0
  unfold NodeT.V at hld ⊢
  go_enter Tryz.func135, Tryz.ntmps135
  go_wp2_with (refine wpList_load_known 154 (.tmp 1) rfl rfl _ _ rfl hld ?_)
  refine (npath_c _ n hr 0 hps).mono ?_
  rintro e w1 ⟨rfl, hE⟩
  rw [HP.out]
  have B1 := (Blk.new w (.cells n.cells.toArray 154)).keeps hE (fun h => h)
  have q2 := B1.cellL e2
  have HE1 := Lib.hid (((ExtR w).alloc _).trans hE)
  clear hld hE B1
  go_wp2_with fail
  go_ret
  exact ⟨rfl, HE1.out⟩
set_option maxRecDepth 100000 in
set_option maxHeartbeats 1000000 in
theorem leaf_nolen (w : World) (n : NodeT) (hr : n.refs.length = 16) (hps : n.path.size ≤ 1000000) (hp : n.pathOk 0 = true) (h8 : 80 < n.value.size) (h9 : n.value.size ≤ 1000000000) : Calls Tryz.prog 135 #[n.V] w fun e w' => e = .returned (.bool false) ∧ Ext w w' := by
  have hld := run_load_box w n hr
  have e2 : n.cells[2]? = some (.string n.value) := rfl
  have hne := ne_empty (s := n.value) (by omega)
  have c1 : ¬ (n.value.size : Int) ≤ 80 := by omega
  have HP := Lib.hid hp
  clear hp
  unfold NodeT.V at hld ⊢
  go_enter Tryz.func135, Tryz.ntmps135
  go_wp2_with (refine wpList_load_known 154 (.tmp 1) rfl rfl _ _ rfl hld ?_)
  refine (npath_c _ n hr 0 hps).mono ?_
  rintro e w1 ⟨rfl, hE⟩
  rw [HP.out]
  have B1 := (Blk.new w (.cells n.cells.toArray 154)).keeps hE (fun h => h)
  have q2 := B1.cellL e2
  have HE1 := Lib.hid (((ExtR w).alloc _).trans hE)
  clear hld hE B1
  go_wp2_with fail
  go_ret
  exact ⟨rfl, HE1.out⟩
set_option maxRecDepth 100000 in
set_option maxHeartbeats 1000000 in
theorem ext_nopath (w : World) (n : NodeT) (hr : n.refs.length = 16) (hps : n.path.size ≤ 1000000) (hp : n.pathOk 1 = false) : Calls Tryz.prog 136 #[n.V] w fun e w' => e = .returned (.bool false) ∧ Ext w w' := by
  have hld := run_load_box w n hr
  have HP := Lib.hid hp
  clear hp
  unfold NodeT.V at hld ⊢
  go_enter Tryz.func136, Tryz.ntmps136
  go_wp2_with (refine wpList_load_known 154 (.tmp 1) rfl rfl _ _ rfl hld ?_)
  refine (npath_c _ n hr 1 hps).mono ?_
  rintro e w1 ⟨rfl, hE⟩
  rw [HP.out]
  have HE1 := Lib.hid (((ExtR w).alloc _).trans hE)
  clear hld hE
  go_wp2_with fail
  go_ret
  exact ⟨rfl, HE1.out⟩
set_option maxRecDepth 100000 in
set_option maxHeartbeats 2000000 in
/-- An Ext whose ref is no hash: what it holds, or does not. -/
theorem ext_noref (w : World) (hG : ErrT w) (n : NodeT) (r : ByteArray) (m : NodeT) (ok : Bool) (hr : n.refs.length = 16) (hp : n.pathOk 1 = true) (h0 : n.value = ⟨#[]⟩) (hb : n.behindN = 1) (h3 : n.refs[0]? = some r) (hs : r.size ≤ 1000000000) (hh : hashA r = none) (hml : m.refs.length = 16)
    (hI : ∀ w, ErrT w → Calls Tryz.prog 128 #[.string r] w fun e w' => e = .returned (.tuple #[m.V, .bool ok]) ∧ Ext w w') (hk : ok = true → m.kind ≠ 3) : Calls Tryz.prog 136 #[n.V] w fun e w' => e = .returned (.bool false) ∧ Ext w w' := by
  have hps : n.path.size ≤ 1000000 := by
    simp only [NodeT.pathOk, Bool.and_eq_true, decide_eq_true_eq] at hp; omega
  have hld := run_load_box w n hr
  have e2 : n.cells[2]? = some (.string ⟨#[]⟩) := by rw [← h0]; rfl
  have e3 : n.cells[3]? = some (.string r) := by
    show (n.refs.map Value.string)[0]? = _
    rw [List.getElem?_map, h3]; rfl
  have HP := Lib.hid hp
  have HB := Lib.hid hb
  have E3 := Lib.hid e3
  have HH := Lib.hid hh
  have HI := Lib.hid hI
  have HRL := Lib.hid hml
  have HK := Lib.hid hk
  have HG := Lib.hid hG
  clear hp hb h0 h3 e3 hh hI hml hk hG
  unfold NodeT.V at hld ⊢
  go_enter Tryz.func136, Tryz.ntmps136
  go_wp2_with (refine wpList_load_known 154 (.tmp 1) rfl rfl _ _ rfl hld ?_)
  refine (npath_c _ n hr 1 hps).mono ?_
  rintro e w1 ⟨rfl, hE⟩
  rw [HP.out]
  have B1 := (Blk.new w (.cells n.cells.toArray 154)).keeps hE (fun h => h)
  have q2 := B1.cellL e2
  have hld1 := run_load_node w1 _ n hr B1
  have HE1 := Lib.hid (((ExtR w).alloc _).trans hE)
  have HB1 := Lib.hid B1
  unfold NodeT.V at hld1
  clear hld hE B1
  go_wp2_with (refine wpList_load_known 154 (.tmp 1) rfl rfl _ _ rfl hld1 ?_)
  refine (behind_c _ n hr).mono ?_
  rintro e w2 ⟨rfl, hE⟩
  rw [HB.out]
  have B2 := HB1.out.keeps hE (fun h => h)
  have HE2 := Lib.hid (HE1.out.trans hE)
  have q3 := B2.cellL E3.out
  have HB2 := Lib.hid B2
  clear hld1 hE q2 B2 HB1 HE1
  go_wp2_with fail
  refine (hash_any w2 r hs).mono ?_
  rintro e w3 ⟨rfl, hE⟩
  rw [HH.out]
  have B3 := HB2.out.keeps hE (fun h => h)
  have HE := Lib.hid (HE2.out.trans hE)
  have q3' := B3.cellL E3.out
  clear hE q3 B3
  unfold optV
  simp only
  go_wp2_with fail
  refine (HI.out w3 (HG.out.ext HE.out)).mono ?_
  rintro e w4 ⟨rfl, hE2⟩
  have HE2 := Lib.hid (HE.out.trans hE2)
  clear hE2 q3'
  unfold NodeT.V
  cases ok with
  | false =>
    go_wp2_with (refine wpList_new Tryz.allocNode rfl rfl ?_; intro W3 hB hE3; refine wpList_fill (vs := m.cells) rfl rfl rfl rfl hB (by rw [m.cells_len HRL.out]; rfl) (by rw [m.cells_len HRL.out]; exact Tryz.szNode) m.one ?_; intro W4 hB4 hE4)
    have hE5 : Ext w4 W4 := hE3.trans' hE4 (fun x hx e => by have e : x = w4.heap.size := e; omega)
    have HE5 := Lib.hid (HE2.out.trans hE5)
    go_ret
    exact ⟨rfl, HE5.out⟩
  | true =>
    have hk3 : ((m.kind : Int) == 3) = false := by have := HK.out rfl; simp; omega
    go_wp2_with (refine wpList_new Tryz.allocNode rfl rfl ?_; intro W3 hB hE3; refine wpList_fill (vs := m.cells) rfl rfl rfl rfl hB (by rw [m.cells_len HRL.out]; rfl) (by rw [m.cells_len HRL.out]; exact Tryz.szNode) m.one ?_; intro W4 hB4 hE4; have q0 : W4.cell? ⟨w4.heap.size, 0, none⟩ = some (.int .i64 (m.kind : Int)) := hB4.cellL (by rfl))
    have hE5 : Ext w4 W4 := hE3.trans' hE4 (fun x hx e => by have e : x = w4.heap.size := e; omega)
    have HE5 := Lib.hid (HE2.out.trans hE5)
    go_ret
    exact ⟨rfl, HE5.out⟩
/-- What may tells. -/
def MayD (b : Bool) (r : ByteArray) : Prop := ∀ w, ErrT w → Calls Tryz.prog 186 #[.string r] w fun e w' => e = .returned (.bool b) ∧ Ext w w'
set_option maxRecDepth 100000 in
set_option maxHeartbeats 1000000 in
theorem may_no (r : ByteArray) (hs : r.size ≤ 1000000000) (hh : hashA r = none) (hI : ∀ w, ErrT w → Calls Tryz.prog 128 #[.string r] w fun e w' => e = .returned (.tuple #[emptyN.V, .bool false]) ∧ Ext w w') : MayD false r := fun w hG => by
  have HG := Lib.hid hG
  clear hG
  have HH := Lib.hid hh
  have HI := Lib.hid hI
  clear hh hI
  go_enter Tryz.func186, Tryz.ntmps186
  go_wp2_with fail
  refine (hash_any w r hs).mono ?_
  rintro e w1 ⟨rfl, hE⟩
  rw [HH.out]
  have HE := Lib.hid hE
  clear hE
  unfold optV
  simp only
  go_wp2_with fail
  refine (HI.out w1 (HG.out.ext HE.out)).mono ?_
  rintro e w2 ⟨rfl, hE2⟩
  have HE2 := Lib.hid (HE.out.trans hE2)
  clear hE2
  unfold NodeT.V
  go_wp2_with (refine wpList_new Tryz.allocNode rfl rfl ?_; intro W3 hB hE3; refine wpList_fill (vs := emptyN.cells) rfl rfl rfl rfl hB rfl Tryz.szNode emptyN.one ?_; intro W4 hB4 hE4)
  have hE5 : Ext w2 W4 := hE3.trans' hE4 (fun x hx e => by have e : x = w2.heap.size := e; omega)
  go_ret
  exact ⟨rfl, HE2.out.trans hE5⟩
set_option maxRecDepth 100000 in
set_option maxHeartbeats 1000000 in
theorem branch_nolen (w : World) (n : NodeT) (hp : n.path = ⟨#[]⟩) (h8 : 80 < n.value.size) (h9 : n.value.size ≤ 1000000000) : Calls Tryz.prog 137 #[n.V] w fun e w' => e = .returned (.bool false) ∧ Ext w w' := by
  have e1 : n.cells[1]? = some (.string ⟨#[]⟩) := by rw [← hp]; rfl
  have e2 : n.cells[2]? = some (.string n.value) := rfl
  have c1 : (80 : Int) < (n.value.size : Int) := by omega
  clear hp
  unfold NodeT.V
  rw [← callsIn_wide (n := 0)]
  refine callsIn_of_wp_marks Tryz.func137 rfl trivial ?_ rfl
  simp only [Tryz.ntmps137, List.size_toArray, List.length_cons, List.length_nil, Nat.reduceAdd, Nat.reduceSub, Array.replicate_succ, Array.replicate_zero, List.push_toArray, List.append_toArray, List.nil_append, List.cons_append]
  have hE2 : Ext w ((w.alloc (.cells n.cells.toArray 154)).alloc (.cells #[.bool false] 4)) := ((ExtR w).alloc _).alloc _
  have hB := Blk.new (w.alloc (.cells n.cells.toArray 154)) (.cells #[.bool false] 4)
  rw [World.size_alloc] at hB
  have c2 := hB.cell (i := 0) (v := .bool false) (by rfl)
  have HX := Lib.hid (And.intro hE2 c2)
  clear hE2 hB c2
  gi_wp2
  have c2 := HX.out.2
  exact ⟨.bool false, by simp [results, Tryz.results137, go_sem, c2], rfl, HX.out.1⟩
/-- Whether a Branch of these refs may be. -/
def braN (M : ByteArray → Bool) (n : NodeT) : Bool := decide (2 ≤ min n.value.size 1 + n.refsL.length) && n.refsL.all fun x => M x.2
set_option maxRecDepth 100000 in
set_option maxHeartbeats 2000000 in
theorem branch_b (w : World) (hG : ErrT w) (n : NodeT) (hr : n.refs.length = 16) (hp : n.path = ⟨#[]⟩) (h8 : n.value.size ≤ 80) (M : ByteArray → Bool) (hm : ∀ r ∈ n.refs, r.size ≠ 0 → MayD (M r) r) : Calls Tryz.prog 137 #[n.V] w fun e w' => e = .returned (.bool (braN M n)) ∧ Ext w w' := by
  have HG := Lib.hid hG
  clear hG
  have e1 : n.cells[1]? = some (.string ⟨#[]⟩) := by rw [← hp]; rfl
  have e2 : n.cells[2]? = some (.string n.value) := rfl
  have c1 : ¬ (80 : Int) < (n.value.size : Int) := by omega
  obtain ⟨c, hc⟩ : ∃ c, c = min n.value.size 1 := ⟨_, rfl⟩
  have hci : min (n.value.size : Int) 1 = (c : Int) := by omega
  obtain ⟨R, hR⟩ : ∃ R, R = braN M n := ⟨_, rfl⟩
  rw [← hR]
  have HB := Lib.hid (show R = (decide (2 ≤ c + n.refsL.length) && n.refsL.all fun x => M x.2) from by rw [hR]; unfold braN; rw [hc])
  clear hR
  have HC := Lib.hid hci
  clear hp hc hci
  rw [← callsIn_wide (n := 0)]
  refine callsIn_of_wp_marks Tryz.func137 rfl trivial ?_ rfl
  simp only [Tryz.ntmps137, List.size_toArray, List.length_cons, List.length_nil, Nat.reduceAdd, Nat.reduceSub, Array.replicate_succ, Array.replicate_zero, List.push_toArray, List.append_toArray, List.nil_append, List.cons_append]
  obtain ⟨W0, hW0⟩ : ∃ W0, W0 = ((w.alloc (.cells n.cells.toArray 154)).alloc (.cells #[.bool false] 4)).alloc (.cells #[.int .i64 (min (n.value.size : Int) 1)] 3) := ⟨_, rfl⟩
  have B0 : Blk W0 w.heap.size (.cells n.cells.toArray 154) := by rw [hW0]; exact ((Blk.new w _).alloc _).alloc _
  have B1 : Blk W0 (w.heap.size + 1) (.cells #[.bool false] 4) := by
    rw [hW0]; have := (Blk.new (w.alloc (.cells n.cells.toArray 154)) (.cells #[.bool false] 4)).alloc (.cells #[.int .i64 (min (n.value.size : Int) 1)] 3); rwa [World.size_alloc] at this
  have B2 : Blk W0 (w.heap.size + 1 + 1) (.cells #[.int .i64 (c : Int)] 3) := by
    rw [hW0, ← HC.out]; have := Blk.new ((w.alloc (.cells n.cells.toArray 154)).alloc (.cells #[.bool false] 4)) (.cells #[.int .i64 (min (n.value.size : Int) 1)] 3); rwa [World.size_alloc, World.size_alloc] at this
  have E0 : Ext w W0 := by rw [hW0]; exact (((ExtR w).alloc _).alloc _).alloc _
  have hs0 : W0.heap.size = w.heap.size + 3 := by rw [hW0]; simp
  have hld := run_load_node W0 _ n hr B0
  rw [hW0] at hld
  have HW0 := Lib.hid hW0
  have HE0 := Lib.hid E0
  have HB0 := Lib.hid B0
  have HB1 := Lib.hid B1
  have HB2 := Lib.hid B2
  have HS0 := Lib.hid hs0
  clear hW0 E0 B0 B1 B2 hs0
  unfold NodeT.V at hld ⊢
  gi_wp2_with (refine wpListIn_load_known rfl 154 (.tmp 1) rfl _ _ rfl hld ?_)
  refine ⟨trivial, rfl, CallsIn.mono (callsIn_wide.2 (refs_c _ n)) ?_⟩
  rintro e w1 ⟨rfl, hbn, hE⟩
  rw [← HW0.out] at hbn hE ⊢
  rw [HS0.out] at hbn ⊢
  have hC0 : BraC w w.heap.size (w.heap.size + 1) (w.heap.size + 1 + 1) (w.heap.size + 3) n c 0 w1 ∧ (∀ j, j < 0 → M (n.rr j) = true) := ⟨⟨HE0.out.trans hE, HB1.out.keeps hE (fun h => h), HB0.out.keeps hE (fun h => h), HB2.out.keeps hE (fun h => h), hbn⟩, fun j hj => by omega⟩
  have hl1 := hbn.lt
  have HC0 := Lib.hid hC0
  have hcc : c ≤ 1 := by have := HC.out; omega
  clear hbn hE hld hC0 HW0 HE0 HB0 HB1 HB2 HS0
  gi_wp2_with fail
  refine wp_rangeE (N := n.refsL.length) (gf := 177) (lb := #[.pointer (some ⟨w.heap.size + 3, 0, none⟩)]) rfl Tryz.enterRefs1 (refs_it (w.heap.size + 3) n hr)
    (fun k => rfl) (fun k W => BraC w w.heap.size (w.heap.size + 1) (w.heap.size + 1 + 1) (w.heap.size + 3) n c k W ∧ ∀ j, j < k → M (n.rr j) = true) (fun cd k W => cd = .ret ∧ M (n.rr (k - 1)) = false ∧ BraC w w.heap.size (w.heap.size + 1) (w.heap.size + 1 + 1) (w.heap.size + 3) n c (k - 1) W)
    (fun k W W' h e => ⟨⟨h.1.ext.trans e, h.1.res.keeps e (fun h => h), h.1.node.keeps e (fun h => h), h.1.full.keeps e (fun h => h), h.1.it.keeps e (fun h => h)⟩, h.2⟩)
    (fun cd k W W' h e => ⟨h.1, h.2.1, ⟨h.2.2.ext.trans e, h.2.2.res.keeps e (fun h => h), h.2.2.node.keeps e (fun h => h), h.2.2.full.keeps e (fun h => h), h.2.2.it.keeps e (fun h => h)⟩⟩) (fun k W h => h.1.it)
    (fun k W o h => ⟨⟨h.1.ext.putObj (.inr (by omega)) _, h.1.res.put_other (by omega) _, h.1.node.put_other (by omega) _, h.1.full.put_other (by omega) _, h.1.it.put_other (by omega) _⟩, h.2⟩)
    (fun k W o h => ⟨⟨h.1.ext.putObj (.inr (by omega)) _, h.1.res.put_other (by omega) _, h.1.node.put_other (by omega) _, h.1.full.put_other (by omega) _, h.1.it.put_other (by omega) _⟩, h.2⟩)
    (fun cd k W o h => ⟨h.1, h.2.1, ⟨h.2.2.ext.putObj (.inr (by omega)) _, h.2.2.res.put_other (by omega) _, h.2.2.node.put_other (by omega) _, h.2.2.full.put_other (by omega) _, h.2.2.it.put_other (by omega) _⟩⟩)
    HC0.out (fun k => { tmps := #[.agg n.cells.toArray, .pointer (some ⟨w.heap.size, 0, none⟩), .pointer (some ⟨w.heap.size + 1, 0, none⟩), .pointer (some ⟨w.heap.size + 1 + 1, 0, none⟩), undef, .string (n.rr k), .pointer (some ⟨w.heap.size, 1, none⟩), .string ⟨#[]⟩, .bool false, .bool false, .pointer (some ⟨w.heap.size, 2, none⟩), .string n.value, .int .i64 n.value.size, .bool false, .bool false, .pointer (some ⟨w.heap.size, 2, none⟩), .string n.value, .int .i64 n.value.size, .int .i64 (min (n.value.size : Int) 1), .agg n.cells.toArray, .func (.func 177) #[] #[.pointer (some ⟨w.heap.size + 3, 0, none⟩)], .int .i64 (n.ri k : Nat), .string (n.rr k), undef, undef, undef, undef, undef, undef, undef], defers := [] })
    ?hassign ?hbody ?hdone ?hstop
  case hassign =>
    intro l j W K hK
    rw [rv_eq, fold2]
    simp only [List.set_cons_zero, List.set_cons_succ]
    gi_wp2
    exact hK
  case hbody =>
    intro l k W hk h hlt
    obtain ⟨h, hall⟩ := h
    have hri := ri_lt n hr hk
    have hmay := hm _ (List.mem_of_getElem? hri.2.1) hri.2.2
    have hk16 : k < 16 := Nat.lt_of_lt_of_le hk (by
      have : ∀ (l : List ByteArray) (i : Nat), (refsFrom i l).length ≤ l.length := by
        intro l
        induction l with
        | nil => intro i; simp [refsFrom]
        | cons x r ih => intro i; unfold refsFrom; split <;> simp <;> have := ih (i + 1) <;> omega
      have := this n.refs 0
      rw [hr] at this; exact this)
    have H := Lib.hid h
    have HM := Lib.hid hmay
    have HA := Lib.hid hall
    clear h hri hmay hall
    gi_wp2_with fail
    refine ⟨trivial, rfl, CallsIn.mono (CallsIn.inRound l (callsIn_wide.2 (HM.out W (HG.out.ext H.out.ext)))) ?_⟩
    rintro e w5 ⟨rfl, hE⟩
    have q := (H.out.full.keeps hE (fun h => h)).cell (i := 0) (v := .int .i64 ((c + k : Nat) : Int)) (by rfl)
    have f : w5.frozen? ⟨w.heap.size + 1 + 1, 0, none⟩ = false := (H.out.full.keeps hE (fun h => h)).frozen
    have HE := Lib.hid hE
    have f1 : w5.frozen? ⟨w.heap.size + 1, 0, none⟩ = false := (H.out.res.keeps hE (fun h => h)).frozen
    have q1 : w5.cell? ⟨w.heap.size + 1, 0, none⟩ = some (.bool false) := (H.out.res.keeps hE (fun h => h)).cell (i := 0) (by rfl)
    clear hE
    obtain ⟨mb, hmb⟩ : ∃ mb, mb = M (n.rr k) := ⟨_, rfl⟩
    rw [← hmb]
    have HMB := Lib.hid hmb
    clear hmb
    cases mb with
    | false =>
      gi_wp2
      have K5 : Keeps (fun b => b = w.heap.size + 1) w5 (w5.setCell ⟨w.heap.size + 1, 0, none⟩ (.bool false)) := Keeps.oneSet w5 ⟨w.heap.size + 1, 0, none⟩ _
      have K6 : Keeps (fun b => b = w.heap.size + 1) W (w5.setCell ⟨w.heap.size + 1, 0, none⟩ (.bool false)) := (HE.out.mono (fun _ _ h => h.elim)).trans K5
      refine ⟨K6.mono (fun x hx e => ?_), ?_⟩
      · have e : x = _ := e; show x ≠ _ ∧ x ≠ _; omega
      · exact ⟨rfl, HMB.out.symm, ⟨H.out.ext.trans' K6 (fun x hx e => by omega), ((H.out.res.keeps HE.out (fun h => h)).set_same (i := 0) _), H.out.node.keeps K6 (by omega), H.out.full.keeps K6 (by omega), H.out.it.keeps K6 (by omega)⟩⟩
    | true =>
    gi_wp2
    rw [show (c : Int) + (k : Int) + 1 = ((c + (k + 1) : Nat) : Int) by omega]
    have K5 : Keeps (fun b => b = w.heap.size + 1 + 1) w5 (w5.setCell ⟨w.heap.size + 1 + 1, 0, none⟩ (.int .i64 ((c + (k + 1) : Nat) : Int))) := Keeps.oneSet w5 ⟨w.heap.size + 1 + 1, 0, none⟩ _
    have K6 : Keeps (fun b => b = w.heap.size + 1 + 1) W (w5.setCell ⟨w.heap.size + 1 + 1, 0, none⟩ (.int .i64 ((c + (k + 1) : Nat) : Int))) := (HE.out.mono (fun _ _ h => h.elim)).trans K5
    refine ⟨K6.mono (fun x hx e => ?_), ?_⟩
    · have e : x = _ := e; show x ≠ _ ∧ x ≠ _; omega
    · refine ⟨⟨H.out.ext.trans' K6 (fun x hx e => by omega), H.out.res.keeps K6 (by omega), H.out.node.keeps K6 (by omega), ((H.out.full.keeps HE.out (fun h => h)).set_same (i := 0) _), H.out.it.keeps K6 (by omega)⟩, fun j hj => ?_⟩
      by_cases hjk : j < k
      · exact HA.out j hjk
      · have : j = k := by omega
        subst this; exact HMB.out.symm
  case hdone =>
    intro W h hd
    obtain ⟨h, hall⟩ := h
    have q := h.full.cell (i := 0) (v := .int .i64 ((c + n.refsL.length : Nat) : Int)) (by rfl)
    have q2 := h.res.cell (i := 0) (v := .bool false) (by rfl)
    have f2 : W.frozen? ⟨w.heap.size + 1, 0, none⟩ = false := h.res.frozen
    have hb : (n.refsL.all fun x => M x.2) = true := by
      rw [List.all_eq_true]
      intro x hx
      obtain ⟨i, hi, rfl⟩ := List.getElem_of_mem hx
      have := hall i hi
      unfold NodeT.rr at this
      rw [List.getD_eq_getElem?_getD, List.getElem?_eq_getElem hi] at this
      exact this
    have hRb : R = decide (2 ≤ c + n.refsL.length) := by rw [HB.out, hb, Bool.and_true]
    have H := Lib.hid h
    have HD := Lib.hid hd
    clear h hd hall hb
    obtain ⟨bb, hbb⟩ : ∃ bb, bb = decide (2 ≤ c + n.refsL.length) := ⟨_, rfl⟩
    have c5 : decide ((2 : Int) ≤ ((c + n.refsL.length : Nat) : Int)) = bb := by rw [hbb]; exact decide_eq_decide.2 (by omega)
    have c6 : decide ((2 : Int) ≤ (c : Int) + (n.refsL.length : Int)) = bb := by rw [hbb]; exact decide_eq_decide.2 (by omega)
    have HRB := Lib.hid (hRb.trans hbb.symm)
    clear hbb hRb
    gi_wp2
    have B2 := (H.out.res.set_same (i := 0) (.bool bb))
    have BD := HD.out.set_other (p := ⟨w.heap.size + 1, 0, none⟩) (by show w1.heap.size ≠ w.heap.size + 1; omega) (.bool bb)
    have hX : Ext w ((W.setCell ⟨w.heap.size + 1, 0, none⟩ (.bool bb)).putObj w1.heap.size (.deferred none)) := (H.out.ext.setCell (.inr (by show w.heap.size ≤ w.heap.size + 1; omega)) _).putObj (.inr (by omega)) _
    obtain ⟨W3, hW3⟩ : ∃ W3, W3 = W.setCell ⟨w.heap.size + 1, 0, none⟩ (.bool bb) := ⟨_, rfl⟩
    rw [← hW3] at B2 BD hX ⊢
    have c2 : (W3.putObj w1.heap.size (.deferred none)).cell? ⟨w.heap.size + 1, 0, none⟩ = some (.bool bb) := (B2.put_other (by omega) _).cell (i := 0) (by simp)
    refine ⟨by simp, .inl ⟨_, _, rfl, run_takeDeferred BD, ?_⟩⟩
    exact ⟨.bool bb, by simp [results, Tryz.results137, go_sem, c2], by rw [HRB.out], hX⟩
  case hstop =>
    intro cd k W hk hk0 h hd
    obtain ⟨rfl, hm1, h⟩ := h
    have hb : (n.refsL.all fun x => M x.2) = false := by
      rw [List.all_eq_false]
      refine ⟨n.refsL.getD (k - 1) (0, ⟨#[]⟩), ?_, ?_⟩
      · rw [List.getD_eq_getElem?_getD, List.getElem?_eq_getElem (by omega)]; exact List.getElem_mem _
      · have : M (n.rr (k - 1)) = false := hm1
        unfold NodeT.rr at this
        rw [this]; simp
    have HRB := Lib.hid (show R = false by rw [HB.out, hb, Bool.and_false])
    have q2 := h.res.cell (i := 0) (v := .bool false) (by rfl)
    have H := Lib.hid h
    have HD := Lib.hid hd
    clear h hd hm1 hb
    have hX : Ext w (W.putObj w1.heap.size (.deferred none)) := H.out.ext.putObj (.inr (by omega)) _
    have c2 : (W.putObj w1.heap.size (.deferred none)).cell? ⟨w.heap.size + 1, 0, none⟩ = some (.bool false) := (H.out.res.put_other (by omega) _).cell (i := 0) (by rfl)
    gi_wp2
    refine ⟨by simp, .inl ⟨_, _, rfl, run_takeDeferred HD.out, ?_⟩⟩
    exact ⟨.bool false, by simp [results, Tryz.results137, go_sem, c2], by rw [HRB.out], hX⟩
end
end Go.Proofs.YtjogjmffkmfmbaaGreatDoor
/- A range over a function whose iterator only extends memory, and whose values are known by a condition only (of the world, too). Over any program. -/
namespace Go.Proofs.YtjogjmffkmfmbaaGreatDoor
section
open Go Go.RowKit
set_option linter.unusedSimpArgs false
set_option linter.unusedVariables false
/-- The iterator's contract: it hands the N values to yield one by one, until yield says no; S: what it rests on. -/
def IterV (P : Program) (gf : FuncId) (lb : Array Value) (N : Nat) (V : Nat → World → Array Value → Prop) (S : World → Prop) : Prop :=
  ∀ (l : Nat) (C : Nat → World → Prop) (Cx : Nat → World → Prop), (∀ k, St (C k)) → (∀ k, St (Cx k)) → (∀ k W, C k W → S W) →
    ∀ W, (∀ k W' vs, k < N → C k W' → V k W' vs → YieldE P l vs W' (C (k + 1)) (Cx (k + 1))) → C 0 W →
      CallsIn Fence.wide 0 P gf (#[.func (.yield l) #[] #[]] ++ lb) W (IterPostE N C Cx)
set_option maxHeartbeats 1000000 in
/-- THE LAW. g = w.heap.size and g + 1: the blocks of book-keeping. -/
theorem wp_rangeV {P : Program} {g : Operand} {ps : Array Tmp} {assign body : Code} {Q : Exit → Act → World → Prop} {a : Act} {w : World}
    {gf : Nat} {lb : Array Value} (hg : a.eval g = .func (.func gf) #[] lb) (eg : ∀ args w, (callFunc gf args).run P w = .ok (.enter gf args) w)
    {N : Nat} {V : Nat → World → Array Value → Prop} {S : World → Prop} (IS : IterV P gf lb N V S)
    (hps : ∀ k W vs, V k W vs → vs.size = ps.size) (hV : ∀ k W vs L o, V k W vs → Blk W (w.heap.size + 1) (.loop L) → V k (W.putObj (w.heap.size + 1) o) vs)
    (C : Nat → World → Prop) (Cj : Code → Nat → World → Prop) (hC : ∀ k, St (C k)) (hCj : ∀ c k, St (Cj c k)) (hS : ∀ k W, C k W → S W)
    (hup : ∀ k W o, C k W → C k (W.putObj w.heap.size o)) (hup1 : ∀ k W o, C k W → C k (W.putObj (w.heap.size + 1) o)) (hupj : ∀ c k W o, Cj c k W → Cj c k (W.putObj (w.heap.size + 1) o))
    (h0 : C 0 w) (a₁ : Array Value → Act)
    (hassign : ∀ (l k : Nat) (W : World) (vs : Array Value) (K : Act → World → Prop), k < N → V k W vs → K (a₁ vs) W →
      assign.wpIn (Fence.wide.inRound l) 0 P (Exit.then K (fun _ _ _ => False)) { tmps := (ps.zip vs).foldl (fun t (p, v) => t.setIfInBounds p v) a.tmps, defers := [] } W)
    (hbody : ∀ (l k : Nat) (W : World) (vs : Array Value), k < N → C k W → V k W vs → w.heap.size + 1 < W.heap.size → body.wpIn (Fence.wide.inRound l) 0 P (RoundE w.heap.size W (C (k + 1)) (fun c => Cj c (k + 1))) (a₁ vs) W)
    (hdone : ∀ (W : World), C N W → Blk W w.heap.size (.deferred (some [])) → Q .normal { a with defers := { target := .collected w.heap.size, args := #[] } :: a.defers } W)
    (hstop : ∀ (c : Code) (k : Nat) (W : World), k ≤ N → 0 < k → Cj c k W → Blk W w.heap.size (.deferred (some [])) →
      c.wpIn Fence.wide 0 P Q { a with defers := { target := .collected w.heap.size, args := #[] } :: a.defers } W) :
    (Code.rangeFunc g ps assign body).wpIn Fence.wide 0 P Q a w := by
  refine wpIn_rangeFunc ?_
  intro fn _
  show ∃ l mark w₁ d w₁' f args w₂, (Instr.enterLoop fn a.tmps ps assign body none).run P w = _ ∧ _
  obtain ⟨rec, hrec⟩ : ∃ rec : LoopState → Option Code → Loop, rec = fun st pe => { state := st, pending := pe, fn, tmps := a.tmps, params := ps, assign, body, defers := w.heap.size } := ⟨_, rfl⟩
  obtain ⟨W1, hW1⟩ : ∃ W1, (w.alloc (.deferred (some []))).alloc (.loop (rec .ready none)) = W1 := ⟨_, rfl⟩
  have hL1 : Blk W1 (w.heap.size + 1) (.loop (rec .ready none)) := by
    rw [← hW1]; have := Blk.new (w.alloc (.deferred (some []))) (.loop (rec .ready none)); rwa [World.size_alloc] at this
  have hK1 : Blk W1 w.heap.size (.deferred (some [])) := by
    rw [← hW1]; exact (Blk.new w _).alloc _
  have hX1 : Ext w W1 := by rw [← hW1]; exact ((Keeps.refl _ w).alloc _).alloc _
  refine ⟨w.heap.size + 1, [{ target := .collected w.heap.size, args := #[] }], W1, { target := .fn (.func gf) lb, args := #[.func (.yield (w.heap.size + 1)) #[] #[]] }, W1, gf,
    #[.func (.yield (w.heap.size + 1)) #[] #[]] ++ lb, W1, ?_, ?_, ?_, ?_, fun h => by simp [Fence.wide] at h, ?_⟩
  · rw [← hW1, hrec]; exact run_enterLoop_outer _ _ _ _ _
  · simp only [resolve, hg]
    simp [go_sem]
  · intro f' _; trivial
  · simp [invoke, go_sem, eg]
  · let CC : Nat → World → Prop := fun k W => C k W ∧ Blk W (w.heap.size + 1) (.loop (rec .ready none)) ∧ Blk W w.heap.size (.deferred (some []))
    let CX : Nat → World → Prop := fun k W => ∃ c, Cj c k W ∧ Blk W (w.heap.size + 1) (.loop (rec .done (some c))) ∧ Blk W w.heap.size (.deferred (some []))
    have key := IS (w.heap.size + 1) CC CX (fun k W W' ⟨h1, h2, h3⟩ e => ⟨hC k _ _ h1 e, h2.keeps e (fun h => h), h3.keeps e (fun h => h)⟩)
      (fun k W W' ⟨c, h1, h2, h3⟩ e => ⟨c, hCj c k _ _ h1 e, h2.keeps e (fun h => h), h3.keeps e (fun h => h)⟩) (fun k W h => hS k W h.1) W1 ?_ ⟨hC 0 _ _ h0 hX1, hL1, hK1⟩
    · refine CallsIn.mono key ?_
      rintro e W' ⟨⟨v, rfl⟩, hcase⟩
      rcases hcase with ⟨h1, h3, h4⟩ | ⟨k, hk1, hk2, c, h1, h3, h4⟩
      · obtain ⟨ox, he⟩ : ∃ ox, (Instr.endLoop (w.heap.size + 1)).run P W' = .ok none (W'.putObj (w.heap.size + 1) ox) := ⟨_, (run_endLoop (r := rec .ready none) h3 (by rw [hrec]; simp)).trans (by rw [hrec])⟩
        exact ⟨none, _, he, hdone _ (hup1 N _ _ h1) (h4.put_other (by omega) _)⟩
      · obtain ⟨ox, he⟩ : ∃ ox, (Instr.endLoop (w.heap.size + 1)).run P W' = .ok (some c) (W'.putObj (w.heap.size + 1) ox) := ⟨_, (run_endLoop (r := rec .done (some c)) h3 (by rw [hrec]; simp)).trans (by rw [hrec])⟩
        exact ⟨some c, _, he, hstop c k _ hk1 hk2 (hupj c k _ _ h1) (h4.put_other (by omega) _)⟩
    · rintro k W vs hk ⟨h1, h3, h4⟩ hvs
      refine ⟨_, _, _, _, run_yield h3 (by rw [hrec]; exact hps k W vs hvs), ?_⟩
      refine roundIn_of_wpIn trivial ?_
      rw [show (rec .ready none).tmps = a.tmps from by rw [hrec], show (rec .ready none).params = ps from by rw [hrec], show (rec .ready none).assign = assign from by rw [hrec], show (rec .ready none).body = body from by rw [hrec]]
      refine hassign _ k W vs _ hk hvs ?_
      refine ⟨_, run_beginRound h3 (by rw [hrec]), ?_⟩
      have hb1 : C k (W.putObj (w.heap.size + 1) (.loop { rec .ready none with state := .busy })) := hup1 k _ _ h1
      refine Code.wpIn_mono ?_ (hbody (w.heap.size + 1) k _ vs hk hb1 (hV k W vs _ _ hvs h3) (by rw [World.putObj_size]; exact h3.lt))
      have fin : ∀ (j : Option Code) (W' : World), Keeps (fun b => b ≠ w.heap.size ∧ b ≠ w.heap.size + 1) (W.putObj (w.heap.size + 1) (.loop { rec .ready none with state := .busy })) W' →
          (Instr.endRound (w.heap.size + 1) j).run P W' = .ok (.bool j.isNone) (W'.putObj (w.heap.size + 1) (.loop (rec (if j.isNone then .ready else .done) j))) ∧
          Blk (W'.putObj (w.heap.size + 1) (.loop (rec (if j.isNone then .ready else .done) j))) (w.heap.size + 1) (.loop (rec (if j.isNone then .ready else .done) j)) ∧
          Blk (W'.putObj (w.heap.size + 1) (.loop (rec (if j.isNone then .ready else .done) j))) w.heap.size (.deferred (some [])) := by
        intro j W' hK
        have hl : Blk W' (w.heap.size + 1) (.loop { rec .ready none with state := .busy }) := (h3.put_same _).keeps hK (fun h => h.2 rfl)
        have hd : Blk W' w.heap.size (.deferred (some [])) := (h4.put_other (by omega) _).keeps hK (fun h => h.1 rfl)
        refine ⟨?_, hl.put_same _, hd.put_other (by omega) _⟩
        rw [run_endRound j hl, hrec]
      intro e a' W' hq
      cases e with
      | normal =>
        obtain ⟨hK, hc⟩ := hq
        obtain ⟨f1, f2, f3⟩ := fin none W' hK
        exact ⟨_, _, f1, .inl ⟨rfl, hup1 _ _ _ hc, f2, f3⟩⟩
      | ret =>
        obtain ⟨hK, hc⟩ := hq
        obtain ⟨f1, f2, f3⟩ := fin (some .ret) W' hK
        exact ⟨_, _, f1, .inr ⟨rfl, .ret, hupj _ _ _ _ hc, f2, f3⟩⟩
      | exit i =>
        obtain ⟨hK, hc⟩ := hq
        obtain ⟨f1, f2, f3⟩ := fin (some (.exit i)) W' hK
        exact ⟨_, _, f1, .inr ⟨rfl, .exit i, hupj _ _ _ _ hc, f2, f3⟩⟩
      | goto t => exact hq.elim
      | panic ch => exact hq.elim
      | outgrown => exact hq.elim
end
end Go.Proofs.YtjogjmffkmfmbaaGreatDoor
/- rlp: each of a text that is no row of items: the items that there are, and a fault behind them. -/
namespace Go.Proofs.YtjogjmffkmfmbaaGreatDoor
section
open Go Go.RowKit
set_option linter.unusedSimpArgs false
set_option linter.unusedVariables false
attribute [local go_sem] Oper.semAt_some
/-- What is told at step k. -/
def EachV (xs : List ByteArray) (k : Nat) (W : World) (vs : Array Value) : Prop :=
  (k < xs.length ∧ vs = #[.string (xs.getD k ⟨#[]⟩), .nilIface]) ∨ (k = xs.length ∧ ∃ b, vs = #[.string ⟨#[]⟩, .iface 274 (.pointer (some ⟨b, 0, none⟩))] ∧ Fa2 W b)
def EachRelN (W : World) (xs : List ByteArray) (z0 : ByteArray) (C : Nat → World → Prop) (v : Value) (wr : World) : Prop := ∃ k : Nat, k ≤ xs.length ∧ v = .string (catB (xs.drop k) ++ z0) ∧ C k wr
set_option maxRecDepth 100000 in
set_option maxHeartbeats 1000000 in
theorem each_itN (b : Nat) (xs : List ByteArray) (z0 : ByteArray) (hx : ∀ x ∈ xs, IsItem x) (hs : (catB xs ++ z0).size ≤ 1000000000) (hz0 : 0 < z0.size) (hcz : cutN z0 = none) : IterV Tryz.prog 208 #[.pointer (some ⟨b, 0, none⟩)] (xs.length + 1) (EachV xs) (fun W => Blk W b (.cells #[.string (catB xs ++ z0)] 9)) := by
  intro l C Cx hC hCx hS W hY h0
  have hB := (hS 0 W h0).cell (i := 0) (v := .string (catB xs ++ z0)) (by rfl)
  have HY := Lib.hid hY
  have H0 := Lib.hid h0
  have HSZ := Lib.hid hs
  have HZ0 := Lib.hid hz0
  have HCZ := Lib.hid hcz
  have HSS0 := Lib.hid hS
  clear hY h0 hS hs hz0 hcz
  refine callsIn_of_wp Tryz.func208 rfl trivial ?_ rfl
  simp only [Tryz.ntmps208, List.size_toArray, List.length_cons, List.length_nil, Nat.reduceAdd, Nat.reduceSub, Array.replicate_succ, Array.replicate_zero, List.push_toArray, List.append_toArray, List.nil_append, List.cons_append]
  gi_wp2
  have HST := Lib.hid hC
  have HSX := Lib.hid hCx
  clear hC hCx
  gi_loopw [3] (fun v wr => EachRelN W xs z0 C v wr) (fun v _ => strSz v)
  case atStart => exact ⟨0, by omega, rfl, H0.out⟩
  case round =>
    obtain ⟨k, hk, rfl, hCk⟩ := hrel
    have HCk := Lib.hid hCk
    clear hCk
    by_cases hlt : k < xs.length
    · obtain ⟨x, hxk⟩ : ∃ x, x = xs[k] := ⟨_, rfl⟩
      have hdc := drop_cat hlt
      rw [← hxk] at hdc
      obtain ⟨y, hy⟩ : ∃ y, y = catB (xs.drop (k + 1)) ++ z0 := ⟨_, rfl⟩
      have hdc : catB (xs.drop k) ++ z0 = x ++ y := by rw [hy, hdc, ByteArray.append_assoc]
      have hsz : (x ++ y).size ≤ 1000000000 := by
        have h1 : (catB (xs.drop k) ++ z0).size ≤ (catB xs ++ z0).size := by
          have h2 : (catB xs).size = (catB (xs.take k)).size + (catB (xs.drop k)).size := by
            conv => lhs; rw [← List.take_append_drop k xs]
            simp only [catB, ByteArray.size, List.map_append, List.flatten_append, List.size_toArray, List.length_append]
          rw [ByteArray.size_append, ByteArray.size_append]; omega
        rw [hdc] at h1; have := HSZ.out; omega
      obtain ⟨r, hr1, hr2⟩ := hx x (hxk ▸ List.getElem_mem hlt) y hsz
      obtain ⟨z, hz⟩ : ∃ z, z = x ++ y := ⟨_, rfl⟩
      have hzs : z.size = x.size + y.size := by rw [hz, ByteArray.size_append]
      rw [← hz] at hdc hsz hr1
      rw [hdc]
      have hpos := cutN_pos hr1
      have hne := ne_empty hpos.1
      have he1 : z.extract (r.2.1 + r.2.2) z.size = y := by
        rw [hr2, hz]; exact ext_cat_r x y
      have he2 : z.extract 0 x.size = x := by
        rw [hz]; exact ext_cat_l x y
      have hgx : xs.getD k ⟨#[]⟩ = x := by rw [List.getD_eq_getElem?_getD, List.getElem?_eq_getElem hlt, ← hxk]; rfl
      have HGX := Lib.hid hgx
      have HX := Lib.hid hxk
      have HSS := Lib.hid hsz
      have HYY := Lib.hid hy
      have HZ := Lib.hid hz
      have HZS := Lib.hid hzs
      have HP := Lib.hid hpos
      have HR2 := Lib.hid hr2
      clear hxk hdc hy hz hgx hpos hr2 hzs
      gi_wp2_with fail
      refine ⟨trivial, rfl, CallsIn.mono (callsIn_wide.2 (cut_c wr z r hsz hr1)) ?_⟩
      rintro e w1 ⟨rfl, hE⟩
      unfold CutRes
      rw [he1]
      obtain ⟨u, hu⟩ : ∃ u, u = z.extract r.2.1 (r.2.1 + r.2.2) := ⟨_, rfl⟩
      rw [← hu]
      obtain ⟨b1, o, ln⟩ := r
      simp only
      clear hr1 he1 hu hsz
      obtain ⟨fn, tm, asg, bd, hyr, hrd⟩ := HY.out k w1 _ (by omega) (HST.out k _ _ HCk.out hE) (.inl ⟨hlt, rfl⟩)
      simp only [HGX.out] at hyr
      have HRD := Lib.hid hrd
      clear hE hrd
      have c1 : (z.size : Int) - (y.size : Int) = (x.size : Int) := by have := HZS.out; omega
      have c2 : (x.size : Int) ≤ (z.size : Int) := by have := HZS.out; omega
      have c3 : z.size ≤ 1000000000 := HSS.out
      gi_wp2
      refine ⟨rfl, (HRD.out.mono ?_)⟩
      rintro e w5 (⟨rfl, C5⟩ | ⟨rfl, C5⟩)
      · have HC5 := Lib.hid C5
        clear C5
        gi_wp2
        go_roundw
        case rel => exact ⟨k + 1, by omega, by rw [← HYY.out], HC5.out⟩
        case measure => show y.size < z.size; have := (show 0 < o + ln from HP.out.2); have := HZS.out; have := (show o + ln = x.size from HR2.out); omega
      · have HC5 := Lib.hid C5
        clear C5
        gi_wp2
        refine bodyPost_ret (results_none rfl _ _ _) rfl ?_
        exact ⟨⟨_, rfl⟩, .inr ⟨k + 1, by omega, by omega, HC5.out⟩⟩
    · have hkl : k = xs.length := by omega
      subst hkl
      have hd : catB (xs.drop xs.length) ++ z0 = z0 := by rw [List.drop_length]; exact ByteArray.empty_append
      rw [hd]
      have hne := ne_empty HZ0.out
      have hsz : z0.size ≤ (catB xs ++ z0).size := by rw [ByteArray.size_append]; omega
      have hBk := (HSS0.out _ _ HCk.out).cell (i := 0) (v := .string (catB xs ++ z0)) (by rfl)
      obtain ⟨s, hs⟩ : ∃ s, s = catB xs ++ z0 := ⟨_, rfl⟩
      rw [← hs] at hsz hBk
      have hs9 : s.size ≤ 1000000000 := by rw [hs]; exact HSZ.out
      have HS := Lib.hid hs
      clear hd hs
      gi_wp2_with fail
      refine ⟨trivial, rfl, CallsIn.mono (callsIn_wide.2 (cut_no wr z0 (by omega) HCZ.out)) ?_⟩
      rintro e w1 ⟨v, rfl, hE, hF⟩
      obtain ⟨c, k2, rfl, hFB, hFn⟩ := hF
      have hBk := cell_ext hBk hE
      have HCk1 := Lib.hid (HST.out _ _ _ HCk.out hE)
      have HFB := Lib.hid hFB
      have hx2 : Ext w1 (w1.alloc (.cells #[.int .i64 ((s.size : Int) - (z0.size : Int)), .iface 274 (.pointer (some ⟨c, 0, none⟩))] 276)) := (ExtR w1).alloc _
      obtain ⟨fn, tm, asg, bd, hyr, hrd⟩ := HY.out xs.length _ _ (Nat.lt_succ_self _) (HST.out _ _ _ HCk1.out hx2) (.inr ⟨rfl, w1.heap.size, rfl, c, _, k2, Blk.new w1 _, hFB.alloc _⟩)
      have HRD := Lib.hid hrd
      clear hE hFB HCk hx2 hrd
      gi_wp2_with fail
      refine ⟨rfl, (HRD.out.mono ?_)⟩
      rintro e w5 (⟨rfl, C5⟩ | ⟨rfl, C5⟩)
      · have HC5 := Lib.hid C5
        clear C5
        gi_wp2
        refine bodyPost_ret (results_none rfl _ _ _) rfl ?_
        exact ⟨⟨_, rfl⟩, .inl HC5.out⟩
      · have HC5 := Lib.hid C5
        clear C5
        gi_wp2
        refine bodyPost_ret (results_none rfl _ _ _) rfl ?_
        exact ⟨⟨_, rfl⟩, .inr ⟨xs.length + 1, Nat.le_refl _, Nat.succ_pos _, HC5.out⟩⟩
end
end Go.Proofs.YtjogjmffkmfmbaaGreatDoor
