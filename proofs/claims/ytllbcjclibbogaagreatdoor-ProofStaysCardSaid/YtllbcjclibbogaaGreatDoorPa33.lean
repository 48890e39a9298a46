/- Parts of the proof, one behind the other: PrfK, PrfL, WayD, CanonQ, MixF, CanonR, CanonS, IterM, CanonT, CanonU. Each is under no condition but those that it states. -/
import Derived.Test.YtllbcjclibbogaaGreatDoorPa32
import Derived.Test.YtllbcjclibbogaaGreatDoorPa26
import Derived.Test.YtllbcjclibbogaaGreatDoorPa31
import Derived.Test.YtllbcjclibbogaaGreatDoorPa16
import Derived.Test.YtllbcjclibbogaaGreatDoorPa19
import Derived.Test.YtllbcjclibbogaaGreatDoorPa14
import Derived.OwnWalk
/- proof: Extract; trie: Empty; what a map's own proof shows. -/
namespace Go.Proofs.YtllbcjclibbogaaGreatDoor
section
open Go Go.RowKit
set_option linter.unusedSimpArgs false
set_option linter.unusedVariables false
attribute [local go_sem] Oper.semAt_some
/-! Plain. -/
theorem keyAt_cons (k : ByteArray) (q : Pair) (l : List Pair) : keyAt k (q :: l) = if q.1 = k then some 0 else (keyAt k l).map (· + 1) := by
  unfold keyAt
  rw [List.findIdx?_cons]
  by_cases h : q.1 = k
  · subst h; simp
  · rw [if_neg h]; simp [toList_ne h]
theorem find_val (k : ByteArray) : ∀ l : List Pair, findB l k = valL l k
  | [] => rfl
  | q :: l => by
    have ih := find_val k l
    unfold findB at ih ⊢
    unfold valL
    rw [keyAt_cons]
    by_cases h : q.1 = k
    · rw [if_pos h, if_pos h]; rfl
    · rw [if_neg h, if_neg h, ← ih, Option.map_map]
      cases keyAt k l <;> rfl
theorem wayN_len (l : List Pair) (key : ByteArray) : 1 ≤ (wayN l key).length ∧ (wayN l key).length ≤ 13 := by
  have := way_len 12 (rowsL l) (pathB key)
  unfold wayN
  rw [List.length_cons]; omega
theorem prove_map (w : World) {l : List Pair} (h : checkN l = 0) (key : ByteArray) : proveR (shaB (trieT l).text) key (wayN l key) = (findB l key, true) := by
  obtain ⟨h1, h2⟩ := prove_way w 12 (rowsL l) (pathB key) (rows_ok (check_ok h)) (path_nib key)
  have h1 : proveN (shaB (trieT l).text) (pathB key) (wayN l key) = (visL 12 (rowsL l) (pathB key), [], true) := h1
  have := wayN_len l key
  unfold proveR
  rw [if_neg (by omega), h1, h2, val_find, find_val]; rfl
theorem way_get (w : World) {l : List Pair} (h : checkN l = 0) (key : ByteArray) : GetAll w (wayN l key) := by
  have hr := rows_ok (check_ok h)
  intro t ht
  unfold wayN at ht
  rcases List.mem_cons.1 ht with e | ht
  · rw [e]; exact .inl ⟨nodeF (buildT 12) (rowsL l), rfl, 12, (good 12 _ hr).1⟩
  · obtain ⟨g, m, hW⟩ := way_is 12 _ _ hr (path_nib key) t ht
    rw [hW.text]
    exact .inl ⟨nodeF (buildT g) m, rfl, g, (good g _ hW.rows).1⟩
noncomputable def extN (l : List Pair) (key : ByteArray) (nodes : List ByteArray) : Option (ByteArray × ByteArray) :=
  if checkN l ≠ 0 then none
  else if (proveR (shaB (trieT l).text) key nodes).2 = true ∧ (proveR (shaB (trieT l).text) key nodes).1 ≠ findB l key then clash2 nodes (textsL l) else none
/-! The walks. -/
set_option maxRecDepth 100000 in
set_option maxHeartbeats 4000000 in
theorem empty_c (W : World) (hc : Cubes W) : Calls Tryz.prog 39 #[] W fun e w' => e = .returned (.string (shaB (trieT []).text)) ∧ Ext W w' := by
  have HR := Lib.hid (root_ok W (.slice none 0 0) [] hc (.inl ⟨none, 0, rfl, rfl⟩) (by decide +kernel))
  obtain ⟨r, hr⟩ : ∃ r, r = shaB (trieT []).text := ⟨_, rfl⟩
  rw [← hr] at HR ⊢
  clear hc hr
  go_enter Tryz.func39, Tryz.ntmps39
  go_wp2_with fail
  refine HR.out.mono ?_
  rintro e w1 ⟨rfl, hE⟩
  have HE := Lib.hid hE
  clear hE
  go_wp2_with fail
  go_ret
  exact ⟨rfl, HE.out⟩
set_option maxRecDepth 100000 in
set_option maxHeartbeats 4000000 in
theorem extract_bad (W : World) (v u : Value) (l : List Pair) (key : ByteArray) (hv : RdP W v l) (hn : l.length ≤ 9223372036854775807) (hs : SmallP l) (h : checkN l ≠ 0) :
    Calls Tryz.prog 40 #[v, .string key, u] W fun e w' => e = .returned (clashV none) ∧ Ext W w' := by
  have hR := root_bad W v l hv hn hs h
  obtain ⟨a, c, hsl⟩ := hv.sl
  subst hsl
  obtain ⟨x, hx⟩ : ∃ x, x = checkN l := ⟨_, rfl⟩
  rw [← hx] at h hR
  have hne : (x != 0) = true := by simpa using h
  have HR := Lib.hid hR
  clear hR hv hx hs
  go_enter Tryz.func40, Tryz.ntmps40
  go_wp2_with fail
  refine HR.out.mono ?_
  rintro e w1 ⟨rfl, hE⟩
  have HE := Lib.hid hE
  clear hE
  go_wp2_with fail
  go_ret3
  exact ⟨rfl, HE.out⟩
def ExRel (w5 : World) (xs ys : List ByteArray) (v : Value) (wr : World) : Prop := ∃ i : Nat, i ≤ xs.length ∧ v = .int .i64 i ∧ Ext w5 wr ∧ (xs.take i).findSome? (clashIn ys) = none
def ExRel2 (w5 : World) (x : ByteArray) (ys : List ByteArray) (v : Value) (wr : World) : Prop := ∃ j : Nat, j ≤ ys.length ∧ v = .int .i64 j ∧ Ext w5 wr ∧ (ys.take j).find? (collB x) = none
set_option maxRecDepth 100000 in
set_option maxHeartbeats 8000000 in
theorem extract_ok (W : World) (hc : Cubes W) (v u : Value) (l : List Pair) (key : ByteArray) (nodes : List ByteArray) (hv : RdP W v l) (hu : RdS W u nodes) (hk : key.size ≤ 1000) (hn : nodes.length ≤ 1000000) (hG : GetAll W nodes) (h : checkN l = 0) :
    Calls Tryz.prog 40 #[v, .string key, u] W fun e w' => e = .returned (clashV (extN l key nodes)) ∧ Ext W w' := by
  have hll : l.length ≤ 1000000 := Nat.le_trans (check_ok h).len (by decide)
  obtain ⟨R, hR0⟩ : ∃ R, R = clashV (extN l key nodes) := ⟨_, rfl⟩
  rw [← hR0]
  obtain ⟨⟨o, b⟩, hr⟩ : ∃ r, r = proveR (shaB (trieT l).text) key nodes := ⟨_, rfl⟩
  obtain ⟨f, hf⟩ : ∃ f, f = findB l key := ⟨_, rfl⟩
  have hR0 : R = clashV (if b = true ∧ o ≠ f then clash2 nodes (textsL l) else none) := by
    rw [hR0]; unfold extN; rw [if_neg (fun hh => hh h), ← hr, ← hf]
  have HR0 := Lib.hid hR0
  have HRT := Lib.hid (root_ok W v l hc hv h)
  have HVF := Lib.hid (fun w (e : Ext W w) => verify_c w (hc.ext e) (shaB (trieT l).text) key hk u nodes (hu.ext e) (hG.ext e))
  have HHO := Lib.hid (fun w (e : Ext W w) => holds_c w v l key o (hv.ext e) hll)
  have HND := Lib.hid (fun w (e : Ext W w) => nodes_ok w v l (hc.ext e) (hv.ext e) h)
  rw [← hr] at HVF
  rw [← hf] at HHO
  obtain ⟨rt, hrt⟩ : ∃ rt, rt = shaB (trieT l).text := ⟨_, rfl⟩
  rw [← hrt] at HRT HVF
  obtain ⟨ys, hys⟩ : ∃ ys, ys = firsts (flatT (trieT l)) := ⟨_, rfl⟩
  have hly : ys.length ≤ 1000000 := by
    rw [hys]; have a := textsL_len h; exact Nat.le_trans a (by decide)
  rw [← hys] at HND
  have HYS := Lib.hid (show textsL l = ys from hys.symm)
  have HC := Lib.hid hc
  have HU := Lib.hid hu
  obtain ⟨a, c, hsl⟩ := hv.sl
  subst hsl
  obtain ⟨a', c', hsl⟩ := rds_sl hu
  subst hsl
  clear hc hv hu hk hG h hR0 hr hf hrt hys hll
  go_enter Tryz.func40, Tryz.ntmps40
  go_wp2_with fail
  refine HRT.out.mono ?_
  rintro e w1 ⟨rfl, hE⟩
  have HE1 := Lib.hid hE
  clear hE HRT
  go_wp2_with fail
  refine (HVF.out w1 HE1.out).mono ?_
  rintro e w2 ⟨rfl, hE⟩
  have HE2 := Lib.hid (HE1.out.trans hE)
  clear hE HE1 HVF
  unfold verV
  cases b with
  | false =>
    unfold clmV
    go_wp2_with (first | (refine wpList_new Tryz.allocClaim rfl rfl ?_; intro W3 hB3 hE3) | (refine wpList_fill (old := clmL none) (vs := clmL none) rfl rfl rfl rfl hB3 (by rw [clm_len]) (by rw [clm_len]; exact Tryz.szClaim) (clm_one _) ?_; intro W4 hB4 hE4))
    go_ret3
    have hX4 : Ext w2 W4 := hE3.trans' hE4 (fun x hx e => by have e : x = w2.heap.size := e; omega)
    exact ⟨by rw [HR0.out, if_neg (fun h => by cases h.1)]; rfl, HE2.out.trans hX4⟩
  | true =>
    unfold clmV
    go_wp2_with (first | (refine wpList_new Tryz.allocClaim rfl rfl ?_; intro W3 hB3 hE3) | (refine wpList_fill (old := clmL none) (vs := clmL o) rfl rfl rfl rfl hB3 ((clm_len none).trans (clm_len o).symm) (by rw [clm_len]; exact Tryz.szClaim) (clm_one _) ?_; intro W4 hB4 hE4; have HB4 := Lib.hid hB4) | (refine wpList_load_known 46 (.tmp 11) rfl rfl _ _ rfl (run_load_clm HB4.out) ?_))
    have hX4 : Ext w2 W4 := hE3.trans' hE4 (fun x hx e => by have e : x = w2.heap.size := e; omega)
    have HE4 := Lib.hid (HE2.out.trans hX4)
    clear hB3 hE3 hB4 hE4 hX4
    refine (HHO.out W4 HE4.out).mono ?_
    rintro e w5 ⟨rfl, hE⟩
    have HE5 := Lib.hid (HE4.out.trans hE)
    clear hE HE4
    by_cases hof : o = f
    · have hd : decide (o = f) = true := decide_eq_true hof
      rw [hd]
      clear hd
      have HOF := Lib.hid hof
      clear hof
      go_wp2_with fail
      go_ret3
      exact ⟨by rw [HR0.out, if_neg (fun h => h.2 HOF.out)]; rfl, HE5.out⟩
    have hd : decide (o = f) = false := decide_eq_false hof
    rw [hd]
    have HR1 := Lib.hid (show R = clashV (clash2 nodes ys) by rw [HR0.out, if_pos ⟨trivial, hof⟩, HYS.out])
    clear hd hof HR0
    go_wp2_with fail
    refine (HND.out w5 HE5.out).mono ?_
    rintro e w6 ⟨q, n, rfl, hRw⟩
    have hrd := hRw.rd
    have HE6 := Lib.hid (HE5.out.trans hRw.ext)
    have hln : ys.length = n := by have := hRw.len; simpa using this
    subst hln
    obtain ⟨a3, c3, e3⟩ := hRw.sl
    subst e3
    have HY6 := Lib.hid hrd
    have HX6 := Lib.hid (HU.out.ext HE6.out)
    clear hRw hrd HE5 HND
    go_wp2_with fail
    go_loopw [48] (fun i wr => ExRel w6 nodes ys i wr) (fun i _ => nodes.length - (intOf i).toNat)
    case atStart => exact ⟨0, by omega, rfl, ExtR _, by simp⟩
    case round =>
      obtain ⟨i, hi, rfl, hE, hall⟩ := hrel
      have HE := Lib.hid hE
      have HALL := Lib.hid hall
      clear hE hall
      by_cases hlt : i < nodes.length
      · obtain ⟨x, hx⟩ : ∃ x, nodes[i]? = some x := ⟨_, List.getElem?_eq_getElem hlt⟩
        obtain ⟨a7, c7, hh, hcx⟩ := HX6.out.slice
        obtain ⟨bx, ox, hax, hcx0⟩ := hcx i x hx
        obtain ⟨e1, _, e3⟩ := Value.slice.inj hh
        rw [hax] at e1
        subst e1
        subst e3
        have hq := cell_ext hcx0 HE.out
        have HXI := Lib.hid hx
        have b1 : (i : Int) < (nodes.length : Int) := by omega
        clear hh hcx hcx0 hax hx
        go_wp2_with fail
        clear hq
        go_loopw [54] (fun j wr => ExRel2 w6 x ys j wr) (fun j _ => ys.length - (intOf j).toNat)
        case atStart => exact ⟨0, by omega, rfl, HE.out, by simp⟩
        case round =>
          obtain ⟨j, hj, rfl, hF, hall2⟩ := hrel
          have HF := Lib.hid hF
          have HALL2 := Lib.hid hall2
          clear hF hall2
          by_cases hlt2 : j < ys.length
          · obtain ⟨y, hy⟩ : ∃ y, ys[j]? = some y := ⟨_, List.getElem?_eq_getElem hlt2⟩
            obtain ⟨a8, c8, hh, hcx⟩ := HY6.out.slice
            obtain ⟨by2, oy2, hax, hcx0⟩ := hcx j y hy
            obtain ⟨e1, _, e3⟩ := Value.slice.inj hh
            rw [hax] at e1
            subst e1
            subst e3
            have hq := cell_ext hcx0 HF.out
            have HYJ := Lib.hid hy
            have b2 : (j : Int) < (ys.length : Int) := by omega
            clear hh hcx hcx0 hax hy
            go_wp2_with fail
            clear hq
            refine (collide_t _ x y (HC.out.ext (HE6.out.trans HF.out))).mono ?_
            rintro e w7 ⟨rfl, hE7⟩
            have HE7 := Lib.hid (HF.out.trans hE7)
            clear hE7
            obtain ⟨cb, hcb⟩ : ∃ cb, cb = collB x y := ⟨_, rfl⟩
            rw [show (decide (x ≠ y) && decide (shaB x = shaB y)) = cb from hcb.symm]
            have HCB := Lib.hid hcb
            clear hcb
            cases cb with
            | true =>
              have HFND := Lib.hid (show R = clashV (some (x, y)) by
                rw [HR1.out, clash2_at HXI.out HALL.out (r := (x, y)) (by unfold clashIn; rw [find_at HYJ.out HALL2.out HCB.out.symm]; rfl)])
              go_wp2_with fail
              go_ret3
              exact ⟨by rw [HFND.out]; rfl, HE6.out.trans HE7.out⟩
            | false =>
              have HST := Lib.hid (find_step HYJ.out HALL2.out HCB.out.symm)
              go_wp2_with fail
              go_roundw
              case rel => exact ⟨j + 1, by omega, by go_num, HE7.out, HST.out⟩
              case measure => simp [intOf]; omega
          · have hjn : j = ys.length := by omega
            have HST := Lib.hid (show (nodes.take (i + 1)).findSome? (clashIn ys) = none from clash2_step HXI.out HALL.out (by have h := HALL2.out; rwa [hjn, List.take_length] at h))
            clear hjn
            go_wp2_with fail
            go_roundw
            case rel => exact ⟨i + 1, by omega, by go_num, HF.out, HST.out⟩
            case measure => simp [intOf]; omega
      · have hin : i = nodes.length := by omega
        have HFN := Lib.hid (show R = clashV none by
          rw [HR1.out]
          have h := HALL.out
          rw [hin, List.take_length] at h
          unfold clash2; rw [h])
        clear hin
        go_wp2_with fail
        go_ret3
        exact ⟨by rw [HFN.out]; rfl, HE6.out.trans HE.out⟩
theorem extract_c (W : World) (hc : Cubes W) (v u : Value) (l : List Pair) (key : ByteArray) (nodes : List ByteArray) (hv : RdP W v l) (hu : RdS W u nodes) (hk : key.size ≤ 1000) (hl : l.length ≤ 9223372036854775807) (hs : SmallP l) (hn : nodes.length ≤ 1000000) (hG : GetAll W nodes) :
    Calls Tryz.prog 40 #[v, .string key, u] W fun e w' => e = .returned (clashV (extN l key nodes)) ∧ Ext W w' := by
  by_cases h : checkN l = 0
  · exact extract_ok W hc v u l key nodes hv hu hk hn hG h
  · have e : extN l key nodes = none := by unfold extN; rw [if_pos h]
    rw [e]
    exact extract_bad W v u l key hv hl hs h
end
end Go.Proofs.YtllbcjclibbogaaGreatDoor
/- law 11: works. -/
namespace Go.Proofs.YtllbcjclibbogaaGreatDoor
section
open Go Go.RowKit
set_option linter.unusedSimpArgs false
set_option linter.unusedVariables false
attribute [local go_sem] Oper.semAt_some
def exW : List Pair := [(⟨#[97]⟩, ⟨#[49]⟩), (⟨#[98]⟩, ⟨#[50]⟩)]
theorem exW_ok : checkN exW = 0 := by decide +kernel
theorem exW_few : fewB exW = true := by decide +kernel
theorem exW_inj : InjL (textsL exW) := by unfold InjL; decide +kernel
theorem exW_nil : checkN [] = 0 := by decide +kernel
theorem exW_none : wayN [] ⟨#[97]⟩ = [⟨#[128]⟩] := by decide +kernel
theorem exW_a : findB exW ⟨#[97]⟩ = some ⟨#[49]⟩ := by decide +kernel
theorem exW_b : findB exW ⟨#[98]⟩ = some ⟨#[50]⟩ := by decide +kernel
theorem exW_0 : findB [] ⟨#[97]⟩ = none := by decide +kernel
theorem rdp_litW (w : World) (xs : List Pair) (T : TypeId) : RdP (w.alloc (.cells (cellsP xs).toArray T)) (.slice (some ⟨w.heap.size, 0, none⟩) xs.length xs.length) xs := by
  refine .inr ⟨_, 0, _, rfl, (Blk.new w _).lt, Nat.le_refl _, fun j x hx => ?_⟩
  obtain ⟨h1, h2⟩ := cellsP_get xs j x hx
  exact ⟨by rw [Nat.zero_add]; exact (Blk.new w _).cellL h1, by rw [Nat.zero_add]; exact (Blk.new w _).cellL h2⟩
/-- What is new since z may be written, but no block of another type than a claim. -/
def KpC (z : Nat) (x y : World) : Prop := Keeps (fun b => z ≤ b) x y ∧ ∀ b cs T, T ≠ 46 → Blk x b (.cells cs T) → Blk y b (.cells cs T)
theorem KpC.trans (z : Nat) (a b c : World) (h : KpC z a b) (k : KpC z b c) : KpC z a c := ⟨h.1.trans k.1, fun x cs T e hB => k.2 x cs T e (h.2 x cs T e hB)⟩
theorem KpC.ext (z : Nat) (x y : World) (h : Ext x y) : KpC z x y := ⟨h.mono (fun _ _ h => h.elim), fun b cs T _ hB => hB.keeps h (fun h => h)⟩
theorem KpC.fill {z b : Nat} {x y : World} {cs : Array Value} (h : Keeps (fun c => c = b) x y) (hz : z ≤ b) (hB : Blk x b (.cells cs 46)) : KpC z x y :=
  ⟨h.mono (fun c _ e => by have e : c = b := e; show z ≤ c; omega), fun c ds T hT hC => hC.keeps h (fun e => by
    have e : c = b := e
    subst e
    have h := Option.some.inj (hC.symm.trans hB)
    injection h with _ h2
    exact hT h2)⟩
theorem Tryz.enterEmpty : ∀ args w, (callFunc 39 args).run Tryz.prog w = .ok (.enter 39 args) w := fun _ _ => by kernel_rfl
theorem Tryz.enterVerify : ∀ args w, (callFunc 21 args).run Tryz.prog w = .ok (.enter 21 args) w := fun _ _ => by kernel_rfl
theorem conv_one {w : World} {b : Nat} {x : UInt8} {T : TypeId} {a : Act} {o : Oper} (ho : execOp a.eval o = (do pure (.value (← convert 64 9 (.slice (some ⟨b, 0, none⟩) 1 1))))) (hB : Blk w b (.cells #[.int .u8 (x.toNat : Int)] T)) : (execOp a.eval o).run Tryz.prog w = .ok (.value (.string ⟨#[x]⟩)) w := by
  have hc : (convert 64 9 (.slice (some ⟨b, 0, none⟩) 1 1)).run Tryz.prog w = .ok (.string ⟨#[x]⟩) w := by
    refine run_convert_bytes_back w _ _ _ ⟨b, 0, none⟩ 1 [x] Tryz.uBytes Tryz.uU8 Tryz.uStr (fun j hj => ?_)
    have h0 : j = 0 := by simp at hj; omega
    subst h0
    exact hB.cell (by rfl)
  rw [ho, Sem.run_bind, hc]
  rfl
theorem rds_blk1 {w : World} {b : Nat} {t : ByteArray} {T : TypeId} (hB : Blk w b (.cells #[.string t] T)) : RdS w (.slice (some ⟨b, 0, none⟩) 1 1) [t] :=
  .inr ⟨b, 0, 1, rfl, hB.lt, Nat.le_refl _, fun j x hx => by
    rw [Nat.zero_add]
    match j, hx with
    | 0, hx => simp at hx; subst hx; exact hB.cell (by rfl)⟩
def w11Act (b : Nat) (rt : ByteArray) (x19 x21 : Value) : Act := { tmps := #[.bool false, .pointer (some ⟨b, 0, none⟩), .int .i64 0, undef, undef, undef, undef, undef, undef, undef, undef, undef, undef, undef, undef, undef, undef, .tuple #[clmV none, .int .i64 0], .string rt, x19, .string ⟨#[128]⟩, x21, .tuple #[clmV none, .int .i64 0], clmV none, .int .i64 0, undef, undef, undef, undef, undef, undef, undef, undef, undef, undef, undef, undef, undef, undef, undef, undef, undef, undef, undef, undef, undef, undef, undef, undef, undef, undef, undef, undef, undef, undef, undef, undef, undef, undef, undef, undef, undef, undef, undef, undef, undef, undef, undef, undef, undef, undef, undef, undef, undef, undef, undef, undef, undef, undef, undef, undef, undef, undef, undef, undef, undef, undef, undef, undef, undef, undef, undef, undef, undef, undef, undef, undef, undef, undef, undef, undef, undef, undef, undef, undef, undef, undef, undef, undef, undef, undef, undef, undef, undef, undef, undef, undef, undef, undef], defers := [] }
set_option maxRecDepth 100000 in
set_option maxHeartbeats 16000000 in
theorem works11_c (w : World) (hc : Cubes w) : Calls Tryz.prog 16 #[] w fun e w' => e = .returned (.bool true) ∧ Ext w w' := by
  have HC := Lib.hid hc
  obtain ⟨rt, hrt⟩ : ∃ rt, rt = shaB (trieT []).text := ⟨_, rfl⟩
  have HEM := Lib.hid (fun w (h : Cubes w) => empty_c w h)
  rw [← hrt] at HEM
  have HVE := Lib.hid (fun w (h : Cubes w) v (hv : RdS w v [⟨#[128]⟩]) => verify_c w h rt ⟨#[97]⟩ (by decide) v [⟨#[128]⟩] hv (by rw [← exW_none]; exact way_get w exW_nil _))
  have e1 : verV (proveR rt ⟨#[97]⟩ [⟨#[128]⟩]) = .tuple #[clmV none, .int .i64 0] := by
    have := prove_map w exW_nil ⟨#[97]⟩
    rw [exW_none, exW_0] at this
    rw [hrt, this]; rfl
  rw [e1] at HVE
  clear hc hrt e1
  go_enter Tryz.func16, Tryz.ntmps16
  go_wp2_with fail
  refine wp_mono (Q := fun e a' w' => e = .normal ∧ ∃ (b : Nat) (x19 x21 : Value), a' = w11Act b rt x19 x21 ∧ Ext w w' ∧ Blk w' b (.cells (clmL none).toArray 46)) (wp_region_mixH [1,3,8,9] Ext (KpC w.heap.size) ExtR ExtT (KpC.trans w.heap.size) (KpC.ext w.heap.size) (by kernel_rfl) (by kernel_rfl) 11 (by kernel_rfl) ?_) ?_
  · refine mixh_call (k := 0) _ 39 #[] (.string rt) rfl (by kernel_rfl) rfl (fun w1 => exec_call Tryz.enterEmpty (by kernel_rfl)) (fun w1 h1 => HEM.out w1 (HC.out.keeps (((drewE w).mono (fun _ _ h => h.elim) : Keeps (fun b => w.heap.size ≤ b) w _).trans h1.1) (fun e => by have e : w.heap.size ≤ _ := e; have := HC.out.lt; omega))) ?_
    simp only [Act.put, List.setIfInBounds_toArray, List.set_cons_zero, List.set_cons_succ]
    have HX0 := Lib.hid (drewE w)
    refine mixh_two 1 8 _ _ (by kernel_rfl) rfl rfl rfl rfl (fun u1 k1 K hK => ?_) (fun u1 k1 K hK => ?_)
    · have HX1 := Lib.hid (show Ext w (u1.alloc (.cells #[.int .u8 128] 5)) from (HX0.out.trans k1).trans ((ExtR u1).alloc _))
      have HB1 := Lib.hid (Blk.new u1 (.cells #[.int .u8 128] 5))
      go_simp
      refine hK _ _ (KpC.ext _ _ _ ((ExtR _).alloc _)) ?_
      clear hK K k1
      refine mixh_val (k := 2) _ (.string ⟨#[128]⟩) rfl (by kernel_rfl) rfl (fun w9 h9 => conv_one (x := 128) rfl (h9.2 _ _ _ (show 5 ≠ 46 by decide) (by exact HB1.out))) ?_
      simp only [Act.put, List.setIfInBounds_toArray, List.set_cons_zero, List.set_cons_succ]
      refine mixh_two 3 8 _ _ (by kernel_rfl) rfl rfl rfl rfl (fun u2 k2 K hK => ?_) (fun u2 k2 K hK => ?_)
      · have HX2 := Lib.hid (show Ext w (u2.alloc (.cells #[.string ⟨#[128]⟩] 9)) from (HX1.out.trans k2).trans ((ExtR u2).alloc _))
        have HB3 := Lib.hid (Blk.new u2 (.cells #[.string ⟨#[128]⟩] 9))
        go_simp
        refine hK _ _ (KpC.ext _ _ _ ((ExtR _).alloc _)) ?_
        clear hK K
        refine mixh_call (k := 4) _ 21 _ (.tuple #[clmV none, .int .i64 0]) rfl (by kernel_rfl) rfl (fun w1 => exec_call Tryz.enterVerify (by kernel_rfl)) (fun w9 h9 => HVE.out w9 (HC.out.keeps (((HX2.out.mono (fun _ _ h => h.elim)) : Keeps (fun b => w.heap.size ≤ b) w _).trans h9.1) (fun e => by have e : w.heap.size ≤ _ := e; have := HC.out.lt; omega)) _ (rds_blk1 (h9.2 _ _ _ (show 9 ≠ 46 by decide) (by exact HB3.out)))) ?_
        simp only [Act.put, List.setIfInBounds_toArray, List.set_cons_zero, List.set_cons_succ]
        refine mixh_pure (k := 5) _ rfl (by kernel_rfl) rfl rfl (fun K hK => ?_); go_big_quiet_op; refine hK _ ?_; clear hK K
        refine mixh_pure (k := 6) _ rfl (by kernel_rfl) rfl rfl (fun K hK => ?_); go_big_quiet_op; refine hK _ ?_; clear hK K
        refine mixh_pure (k := 7) _ rfl (by kernel_rfl) rfl rfl (fun K hK => ?_); go_big_quiet_op; refine hK _ ?_; clear hK K
        refine mixh_hard (k := 8) _ rfl (by kernel_rfl) rfl (fun u3 k3 K hK => ?_)
        refine wp_new1 Tryz.allocClaim rfl ?_
        intro W8 hB8 hE8
        have HX3 := Lib.hid (show Ext w W8 from (HX2.out.trans k3).trans hE8)
        have HZ8 := Lib.hid (show w.heap.size ≤ u3.heap.size from (HX2.out.trans k3).size)
        have HB8 := Lib.hid hB8
        refine hK _ _ (KpC.ext _ _ _ hE8) ?_
        clear hK K hB8 hE8
        simp only [Act.put, List.setIfInBounds_toArray, List.set_cons_zero, List.set_cons_succ]
        refine mixh_hard (k := 9) _ rfl (by kernel_rfl) rfl (fun u4 k4 K hK => ?_)
        have hB9 := HB8.out.keeps k4 (fun h => h)
        refine wp_fill (old := clmL none) (vs := clmL none) rfl rfl rfl hB9 rfl (by rw [clm_len]; exact Tryz.szClaim) (clm_one _) ?_
        intro W9 hB9' hE9
        refine hK _ _ (KpC.fill hE9 HZ8.out hB9) ?_
        have HX4 := Lib.hid (show Ext w W9 from (HX3.out.trans k4).trans' hE9 (fun x hx e => by have e : x = _ := e; have := HZ8.out; omega))
        clear hK K
        simp only [Act.put, List.setIfInBounds_toArray, List.set_cons_zero, List.set_cons_succ]
        refine mixh_pure (k := 10) _ rfl (by kernel_rfl) rfl rfl (fun K hK => ?_); go_big_quiet_op; refine hK _ ?_; clear hK K
        refine mixh_end (by kernel_rfl) (fun w10 h10 => ?_)
        exact ⟨trivial, _, _, _, rfl, HX4.out.trans h10, hB9'.keeps h10 (fun h => h)⟩
      · refine wp_new1 Tryz.allocClaim rfl ?_
        intro W8 hB8 hE8
        have HX2 := Lib.hid (show Ext w W8 from (HX1.out.trans k2).trans hE8)
        have HZ8 := Lib.hid (show w.heap.size ≤ u2.heap.size from (HX1.out.trans k2).size)
        have HB8 := Lib.hid hB8
        refine hK _ _ (KpC.ext _ _ _ hE8) ?_
        clear hK K hB8 hE8
        simp only [Act.put, List.setIfInBounds_toArray, List.set_cons_zero, List.set_cons_succ]
        refine mixh_hard (k := 3) _ rfl (by kernel_rfl) rfl (fun u3 k3 K hK => ?_)
        replace HB8 := Lib.hid (HB8.out.keeps (k3.trans ((ExtR u3).alloc (.cells #[.string ⟨#[128]⟩] 9))) (fun h => h))
        have HX3 := Lib.hid (show Ext w (u3.alloc (.cells #[.string ⟨#[128]⟩] 9)) from (HX2.out.trans k3).trans ((ExtR u3).alloc _))
        have HB3 := Lib.hid (Blk.new u3 (.cells #[.string ⟨#[128]⟩] 9))
        go_simp
        refine hK _ _ (KpC.ext _ _ _ ((ExtR _).alloc _)) ?_
        clear hK K
        refine mixh_call (k := 4) _ 21 _ (.tuple #[clmV none, .int .i64 0]) rfl (by kernel_rfl) rfl (fun w1 => exec_call Tryz.enterVerify (by kernel_rfl)) (fun w9 h9 => HVE.out w9 (HC.out.keeps (((HX3.out.mono (fun _ _ h => h.elim)) : Keeps (fun b => w.heap.size ≤ b) w _).trans h9.1) (fun e => by have e : w.heap.size ≤ _ := e; have := HC.out.lt; omega)) _ (rds_blk1 (h9.2 _ _ _ (show 9 ≠ 46 by decide) (by exact HB3.out)))) ?_
        simp only [Act.put, List.setIfInBounds_toArray, List.set_cons_zero, List.set_cons_succ]
        refine mixh_pure (k := 5) _ rfl (by kernel_rfl) rfl rfl (fun K hK => ?_); go_big_quiet_op; refine hK _ ?_; clear hK K
        refine mixh_pure (k := 6) _ rfl (by kernel_rfl) rfl rfl (fun K hK => ?_); go_big_quiet_op; refine hK _ ?_; clear hK K
        refine mixh_pure (k := 7) _ rfl (by kernel_rfl) rfl rfl (fun K hK => ?_); go_big_quiet_op; refine hK _ ?_; clear hK K
        refine mixh_hard (k := 9) _ rfl (by kernel_rfl) rfl (fun u4 k4 K hK => ?_)
        have hB9 := HB8.out.keeps k4 (fun h => h)
        refine wp_fill (old := clmL none) (vs := clmL none) rfl rfl rfl hB9 rfl (by rw [clm_len]; exact Tryz.szClaim) (clm_one _) ?_
        intro W9 hB9' hE9
        refine hK _ _ (KpC.fill hE9 HZ8.out hB9) ?_
        have HX4 := Lib.hid (show Ext w W9 from (HX3.out.trans k4).trans' hE9 (fun x hx e => by have e : x = _ := e; have := HZ8.out; omega))
        clear hK K
        simp only [Act.put, List.setIfInBounds_toArray, List.set_cons_zero, List.set_cons_succ]
        refine mixh_pure (k := 10) _ rfl (by kernel_rfl) rfl rfl (fun K hK => ?_); go_big_quiet_op; refine hK _ ?_; clear hK K
        refine mixh_end (by kernel_rfl) (fun w10 h10 => ?_)
        exact ⟨trivial, _, _, _, rfl, HX4.out.trans h10, hB9'.keeps h10 (fun h => h)⟩
    · refine wp_new1 Tryz.allocClaim rfl ?_
      intro W8 hB8 hE8
      have HX1 := Lib.hid (show Ext w W8 from (HX0.out.trans k1).trans hE8)
      have HZ8 := Lib.hid (show w.heap.size ≤ u1.heap.size from (HX0.out.trans k1).size)
      have HB8 := Lib.hid hB8
      refine hK _ _ (KpC.ext _ _ _ hE8) ?_
      clear hK K hB8 hE8
      simp only [Act.put, List.setIfInBounds_toArray, List.set_cons_zero, List.set_cons_succ]
      refine mixh_hard (k := 1) _ rfl (by kernel_rfl) rfl (fun u2 k2 K hK => ?_)
      replace HB8 := Lib.hid (HB8.out.keeps (k2.trans ((ExtR u2).alloc (.cells #[.int .u8 128] 5))) (fun h => h))
      have HX2 := Lib.hid (show Ext w (u2.alloc (.cells #[.int .u8 128] 5)) from (HX1.out.trans k2).trans ((ExtR u2).alloc _))
      have HB1 := Lib.hid (Blk.new u2 (.cells #[.int .u8 128] 5))
      go_simp
      refine hK _ _ (KpC.ext _ _ _ ((ExtR _).alloc _)) ?_
      clear hK K k2
      refine mixh_val (k := 2) _ (.string ⟨#[128]⟩) rfl (by kernel_rfl) rfl (fun w9 h9 => conv_one (x := 128) rfl (h9.2 _ _ _ (show 5 ≠ 46 by decide) (by exact HB1.out))) ?_
      simp only [Act.put, List.setIfInBounds_toArray, List.set_cons_zero, List.set_cons_succ]
      refine mixh_hard (k := 3) _ rfl (by kernel_rfl) rfl (fun u3 k3 K hK => ?_)
      replace HB8 := Lib.hid (HB8.out.keeps (k3.trans ((ExtR u3).alloc (.cells #[.string ⟨#[128]⟩] 9))) (fun h => h))
      have HX3 := Lib.hid (show Ext w (u3.alloc (.cells #[.string ⟨#[128]⟩] 9)) from (HX2.out.trans k3).trans ((ExtR u3).alloc _))
      have HB3 := Lib.hid (Blk.new u3 (.cells #[.string ⟨#[128]⟩] 9))
      go_simp
      refine hK _ _ (KpC.ext _ _ _ ((ExtR _).alloc _)) ?_
      clear hK K
      refine mixh_call (k := 4) _ 21 _ (.tuple #[clmV none, .int .i64 0]) rfl (by kernel_rfl) rfl (fun w1 => exec_call Tryz.enterVerify (by kernel_rfl)) (fun w9 h9 => HVE.out w9 (HC.out.keeps (((HX3.out.mono (fun _ _ h => h.elim)) : Keeps (fun b => w.heap.size ≤ b) w _).trans h9.1) (fun e => by have e : w.heap.size ≤ _ := e; have := HC.out.lt; omega)) _ (rds_blk1 (h9.2 _ _ _ (show 9 ≠ 46 by decide) (by exact HB3.out)))) ?_
      simp only [Act.put, List.setIfInBounds_toArray, List.set_cons_zero, List.set_cons_succ]
      refine mixh_pure (k := 5) _ rfl (by kernel_rfl) rfl rfl (fun K hK => ?_); go_big_quiet_op; refine hK _ ?_; clear hK K
      refine mixh_pure (k := 6) _ rfl (by kernel_rfl) rfl rfl (fun K hK => ?_); go_big_quiet_op; refine hK _ ?_; clear hK K
      refine mixh_pure (k := 7) _ rfl (by kernel_rfl) rfl rfl (fun K hK => ?_); go_big_quiet_op; refine hK _ ?_; clear hK K
      refine mixh_hard (k := 9) _ rfl (by kernel_rfl) rfl (fun u4 k4 K hK => ?_)
      have hB9 := HB8.out.keeps k4 (fun h => h)
      refine wp_fill (old := clmL none) (vs := clmL none) rfl rfl rfl hB9 rfl (by rw [clm_len]; exact Tryz.szClaim) (clm_one _) ?_
      intro W9 hB9' hE9
      refine hK _ _ (KpC.fill hE9 HZ8.out hB9) ?_
      have HX4 := Lib.hid (show Ext w W9 from (HX3.out.trans k4).trans' hE9 (fun x hx e => by have e : x = _ := e; have := HZ8.out; omega))
      clear hK K
      simp only [Act.put, List.setIfInBounds_toArray, List.set_cons_zero, List.set_cons_succ]
      refine mixh_pure (k := 10) _ rfl (by kernel_rfl) rfl rfl (fun K hK => ?_); go_big_quiet_op; refine hK _ ?_; clear hK K
      refine mixh_end (by kernel_rfl) (fun w10 h10 => ?_)
      exact ⟨trivial, _, _, _, rfl, HX4.out.trans h10, hB9'.keeps h10 (fun h => h)⟩
  · rintro e a' w1 ⟨rfl, b, x19, x21, rfl, hE, hB⟩
    have HE1 := Lib.hid hE
    have HB1 := Lib.hid hB
    clear hE hB HEM HVE
    unfold w11Act
    go_wp2_with fail
    have hx0 : Ext w1 (w1.alloc (.cells #[.string ⟨#[97]⟩, .string ⟨#[49]⟩, .string ⟨#[98]⟩, .string ⟨#[50]⟩] 51)) := (ExtR w1).alloc _
    refine (hold08x_c _ (HC.out.ext (HE1.out.trans hx0)) _ exW (rdp_litW w1 exW 51) (by decide) (fun p hp => by
      have : ∀ p ∈ exW, p.1.size ≤ 9223372036854775807 ∧ p.2.size ≤ 9223372036854775807 := by decide
      exact this p hp)).mono ?_
    rintro e w2 (⟨_, _, hno⟩ | ⟨s, bm, S, rfl, hE, hH, _, _⟩)
    · exact absurd ⟨exW_few, exW_ok, exW_inj⟩ hno
    have HE2 := Lib.hid (HE1.out.trans (hx0.trans hE))
    have HB2 := Lib.hid (HB1.out.keeps (hx0.trans hE) (fun h => h))
    have HL2 := Lib.hid ((rdp_litW w1 exW 51).ext hE)
    have HS2 := Lib.hid hH.st
    have HM := Lib.hid (And.intro hH.hasM hH.key)
    obtain ⟨rx, hrx⟩ : ∃ rx, rx = shaB (trieT exW).text := ⟨_, rfl⟩
    have HRX := Lib.hid hrx
    rw [← hrx]
    obtain ⟨lg, hlg⟩ : ∃ lg, lg = w1.heap.size := ⟨_, rfl⟩
    rw [← hlg] at HL2 ⊢
    have HL2 := Lib.hid (show RdP w2 (.slice (some ⟨lg, 0, none⟩) 2 2) exW from HL2.out)
    clear hE hH hx0 hrx HE1 HB1 hlg
    go_wp2_with fail
    have hbd := build11_c w2 s bm 2000 S HS2.out exW HM.out.1 ⟨#[98]⟩ (by decide)
    rw [← HRX.out] at hbd
    refine hbd.mono ?_
    rintro e w3 ⟨pa, pc, rfl, hP⟩
    obtain ⟨N, hN⟩ : ∃ N, N = wayN exW ⟨#[98]⟩ := ⟨_, rfl⟩
    rw [← hN] at hP ⊢
    have HNN := Lib.hid hN
    have HP3 := Lib.hid hP.rd
    have HE3 := Lib.hid (HE2.out.trans hP.ext)
    have HB3 := Lib.hid (HB2.out.keeps hP.ext (fun h => h))
    have HL3 := Lib.hid (HL2.out.ext hP.ext)
    have HS3 := Lib.hid (HS2.out.ext hP.ext)
    clear hbd hP HE2 HB2 HL2 HS2 hN
    obtain ⟨nn, hnn⟩ : ∃ nn, nn = N.length := ⟨_, rfl⟩
    rw [← hnn] at HP3 ⊢
    have HNL := Lib.hid hnn
    clear hnn
    go_wp2_with fail
    have hgN : GetAll w3 N := by rw [HNN.out]; exact way_get w3 exW_ok _
    have hvf := verify_c w3 (HC.out.ext HE3.out) rx ⟨#[98]⟩ (by decide) _ N HP3.out hgN
    have hpr : proveR rx ⟨#[98]⟩ N = (some ⟨#[50]⟩, true) := by rw [HRX.out, HNN.out, prove_map w3 exW_ok, exW_b]
    rw [hpr] at hvf
    have HPR := Lib.hid hpr
    refine hvf.mono ?_
    rintro e w4 ⟨rfl, hE⟩
    have HP4 := Lib.hid (HP3.out.ext hE)
    have HE4 := Lib.hid (HE3.out.trans hE)
    have HB4 := Lib.hid (HB3.out.keeps hE (fun h => h))
    have HL4 := Lib.hid (HL3.out.ext hE)
    have HS4 := Lib.hid (HS3.out.ext hE)
    clear hvf hE hgN hpr HP3 HE3 HB3 HL3 HS3
    have e2 : verV (some ⟨#[50]⟩, true) = .tuple #[.agg (clmL (some ⟨#[50]⟩)).toArray, .int .i64 0] := rfl
    rw [e2]
    clear e2
    go_wp2_with (first | (refine wpList_new Tryz.allocClaim rfl rfl ?_; intro W5 hB5 hE5) | (refine wpList_fill (old := clmL none) (vs := clmL (some ⟨#[50]⟩)) rfl rfl rfl rfl hB5 rfl (by rw [clm_len]; exact Tryz.szClaim) (clm_one _) ?_; intro W6 hB6 hE6))
    have HE6 := Lib.hid (HE4.out.trans (hE5.trans' hE6 (fun x hx e => by have e : x = w4.heap.size := e; omega)))
    have hX6 : Ext w4 W6 := hE5.trans' hE6 (fun x hx e => by have e : x = w4.heap.size := e; omega)
    have HP6 := Lib.hid (HP4.out.ext hX6)
    have HL6 := Lib.hid (HL4.out.ext hX6)
    have HS6 := Lib.hid (HS4.out.ext hX6)
    have HB6 := Lib.hid (HB4.out.keeps hX6 (fun h => h))
    have HC6 := Lib.hid hB6
    obtain ⟨cb, hcb⟩ : ∃ cb, cb = w4.heap.size := ⟨_, rfl⟩
    rw [← hcb] at HC6 ⊢
    clear hcb hB5 hE5 hB6 hE6 hX6 HE4 HP4 HL4 HS4 HB4
    have hvf := verify_c W6 (HC.out.ext HE6.out) rx ⟨#[98]⟩ (by decide) (.slice none 0 0) [] (.inl ⟨none, 0, rfl, rfl⟩) (fun t ht => by cases ht)
    have e2 : verV (proveR rx ⟨#[98]⟩ []) = .tuple #[.agg (clmL none).toArray, .int .i64 10] := rfl
    rw [e2] at hvf
    clear e2
    refine hvf.mono ?_
    rintro e w7 ⟨rfl, hE⟩
    clear hvf
    go_wp2_with (first | (refine wpList_new Tryz.allocClaim rfl rfl ?_; intro W8 hB8 hE8) | (refine wpList_fill (old := clmL none) (vs := clmL none) rfl rfl rfl rfl hB8 rfl (by rw [clm_len]; exact Tryz.szClaim) (clm_one _) ?_; intro W9 hB9 hE9))
    have hX9 : Ext W6 W9 := hE.trans (hE8.trans' hE9 (fun x hx e => by have e : x = w7.heap.size := e; omega))
    have HE9 := Lib.hid (HE6.out.trans hX9)
    have HP9 := Lib.hid (HP6.out.ext hX9)
    have HL9 := Lib.hid (HL6.out.ext hX9)
    have HS9 := Lib.hid (HS6.out.ext hX9)
    have HB9 := Lib.hid (HB6.out.keeps hX9 (fun h => h))
    have HC9 := Lib.hid (HC6.out.keeps hX9 (fun h => h))
    obtain ⟨cc, hcc⟩ : ∃ cc, cc = w7.heap.size := ⟨_, rfl⟩
    rw [← hcc]
    clear hcc hE hB8 hE8 hB9 hE9 hX9 HE6 HP6 HL6 HS6 HB6 HC6
    have hno : atL S (⟨#[63]⟩ : ByteArray).data.toList = none := by
      cases ha : atL S (⟨#[63]⟩ : ByteArray).data.toList with
      | none => rfl
      | some y =>
        obtain ⟨t, _, ht⟩ := (HM.out.2 _).1 (has_iff.1 (show (atL S (⟨#[63]⟩ : ByteArray).data.toList).isSome = true by rw [ha]; rfl))
        have h1 := congrArg List.length ht
        have h2 : (ky t).length = 32 := shaB_size t
        rw [h2] at h1; cases h1
    refine (build11_no W9 s bm 2000 S HS9.out ⟨#[63]⟩ ⟨#[98]⟩ hno).mono ?_
    rintro e w10 ⟨rfl, hE⟩
    have HE10 := Lib.hid (HE9.out.trans hE)
    have HP10 := Lib.hid (HP9.out.ext hE)
    have HL10 := Lib.hid (HL9.out.ext hE)
    have HB10 := Lib.hid (HB9.out.keeps hE (fun h => h))
    have HC10 := Lib.hid (HC9.out.keeps hE (fun h => h))
    clear hno hE HE9 HP9 HL9 HS9 HB9 HC9
    go_wp2_with fail
    have hex := extract_c w10 (HC.out.ext HE10.out) _ _ exW ⟨#[98]⟩ N HL10.out HP10.out (by decide) (by decide) (fun p hp => by
      have : ∀ p ∈ exW, p.1.size ≤ 9223372036854775807 ∧ p.2.size ≤ 9223372036854775807 := by decide
      exact this p hp) (by rw [HNN.out]; have := wayN_len exW ⟨#[98]⟩; omega) (by rw [HNN.out]; exact way_get w10 exW_ok _)
    have e3 : extN exW ⟨#[98]⟩ N = none := by
      have hpr := HPR.out
      rw [HRX.out] at hpr
      unfold extN
      rw [if_neg (fun h => h exW_ok), hpr, exW_b, if_neg (fun h => h.2 rfl)]
    rw [e3] at hex
    refine hex.mono ?_
    rintro e w11 ⟨rfl, hE⟩
    have HE11 := Lib.hid (HE10.out.trans hE)
    have HL11 := Lib.hid (HL10.out.ext hE)
    have HB11 := Lib.hid (HB10.out.keeps hE (fun h => h))
    have HC11 := Lib.hid (HC10.out.keeps hE (fun h => h))
    clear hex e3 hE HE10 HP10 HL10 HB10 HC10
    unfold clashV
    have q0 := HB11.out.cell (i := 0) (v := .bool false) (by rfl)
    have c0 := HC11.out.cell (i := 0) (v := .bool true) (by rfl)
    have c1 := HC11.out.cell (i := 1) (v := .string ⟨#[50]⟩) (by rfl)
    have he2 : ((⟨#[50]⟩ : ByteArray).toList == (⟨#[50]⟩ : ByteArray).toList) = true := by simp
    have he0 : ((⟨#[]⟩ : ByteArray).toList == (⟨#[]⟩ : ByteArray).toList) = true := by simp
    go_wp2_with (refine wpList_load_known 46 (.tmp 8) rfl rfl _ _ rfl (run_load_clm HC11.out) ?_)
    have hh := holds_c w11 _ exW ⟨#[98]⟩ (some ⟨#[50]⟩) HL11.out (by decide)
    rw [exW_b, decide_eq_true rfl] at hh
    refine hh.mono ?_
    rintro e w12 ⟨rfl, hE⟩
    have HE12 := Lib.hid (HE11.out.trans hE)
    have HL12 := Lib.hid (HL11.out.ext hE)
    have HC12 := Lib.hid (HC11.out.keeps hE (fun h => h))
    clear hh hE q0 c0 c1 HE11 HL11 HB11 HC11
    go_wp2_with (refine wpList_load_known 46 (.tmp 8) rfl rfl _ _ rfl (run_load_clm HC12.out) ?_)
    have hh := holds_c w12 _ exW ⟨#[97]⟩ (some ⟨#[50]⟩) HL12.out (by decide)
    rw [exW_a, decide_eq_false (by decide)] at hh
    refine hh.mono ?_
    rintro e w13 ⟨rfl, hE⟩
    have HE13 := Lib.hid (HE12.out.trans hE)
    clear hh hE
    go_wp2_with fail
    go_ret
    exact ⟨rfl, HE13.out⟩
end
end Go.Proofs.YtllbcjclibbogaaGreatDoor
/- A proof's run, plain: what its next node's hash is; all of it; whether it is true. -/
namespace Go.Proofs.YtllbcjclibbogaaGreatDoor
section
open Go Go.RowKit
set_option linter.unusedSimpArgs false
set_option linter.unusedVariables false
end
end Go.Proofs.YtllbcjclibbogaaGreatDoor
/- canon: Equal of entries. -/
namespace Go.Proofs.YtllbcjclibbogaaGreatDoor
section
open Go Go.RowKit
set_option linter.unusedSimpArgs false
set_option linter.unusedVariables false
end
end Go.Proofs.YtllbcjclibbogaaGreatDoor
/- The law for regions that draw their order, where two hard operations may stand ready at once: a fork. Over any program. -/
namespace Go.Proofs.YtllbcjclibbogaaGreatDoor
section
open Go Go.RowKit
set_option linter.unusedSimpArgs false
set_option linter.unusedVariables false

section mixf
variable {P : Program} {l : List Oper} {E : World → World → Prop}

variable {R : List Nat → Act → World → Prop} {ord done : List Nat} {a : Act} {w : World} {k : Nat} {o : Oper}
end mixf
end
end Go.Proofs.YtllbcjclibbogaaGreatDoor
/- canon: Clash. -/
namespace Go.Proofs.YtllbcjclibbogaaGreatDoor
section
open Go Go.RowKit
set_option linter.unusedSimpArgs false
set_option linter.unusedVariables false
end
end Go.Proofs.YtllbcjclibbogaaGreatDoor
/- canon: Clash of two maps. -/
namespace Go.Proofs.YtllbcjclibbogaaGreatDoor
section
open Go Go.RowKit
set_option linter.unusedSimpArgs false
set_option linter.unusedVariables false
end
end Go.Proofs.YtllbcjclibbogaaGreatDoor
/- A range over a function that hands what it has in an order of no one's choosing, and owns one block (a map's iterator): its contract, the caller's law. Over any program. -/
namespace Go.Proofs.YtllbcjclibbogaaGreatDoor
section
open Go Go.RowKit
set_option linter.unusedSimpArgs false
set_option linter.unusedVariables false

/-- A round that goes on: it keeps the block r. -/
def YieldM (P : Program) (l : Nat) (args : Array Value) (W : World) (r : Nat) (Ct : World → Prop) : Prop :=
  YieldAt Fence.wide 0 P l args W fun e W' => e = .returned (.bool true) ∧ Keeps (fun b => b ≠ r) W W' ∧ Ct W'

/-- The iterator's contract: from s0 on, by steps, to where it is done; S: what it rests on; the first block that it makes is its own. -/
def IterM (P : Program) (gf : FuncId) (lb : Array Value) {σ : Type} (s0 : σ) (Step : σ → Array Value → σ → Prop) (Done : σ → Prop) (S : World → Prop) : Prop :=
  ∀ (l : Nat) (C : σ → World → Prop) (W : World), (∀ s W1 W2, C s W1 → Keeps (fun b => b = W.heap.size) W1 W2 → C s W2) → (∀ s W1, C s W1 → S W1) →
    (∀ s v s' W1, Step s v s' → C s W1 → W.heap.size < W1.heap.size → YieldM P l v W1 W.heap.size (C s')) → C s0 W →
      CallsIn Fence.wide 0 P gf (#[.func (.yield l) #[] #[]] ++ lb) W (fun e W' => (∃ v, e = .returned v) ∧ ∃ s, Done s ∧ C s W')

/-- What is asked where a round's body is left: the blocks of book-keeping, and the iterator's, stay. -/
def RoundM (g : Nat) (W : World) (Ct : World → Prop) : Exit → Act → World → Prop
  | .normal, _, W' => Keeps (fun b => b ≠ g ∧ b ≠ g + 1 ∧ b ≠ g + 2) W W' ∧ Ct W'
  | _, _, _ => False

set_option maxHeartbeats 1000000 in
/-- THE LAW. g = w.heap.size, g + 1: the blocks of book-keeping; g + 2: the iterator's. -/
theorem wp_rangeM {P : Program} {g : Operand} {ps : Array Tmp} {assign body : Code} {Q : Exit → Act → World → Prop} {a : Act} {w : World}
    {gf : Nat} {lb : Array Value} (hg : a.eval g = .func (.func gf) #[] lb) (eg : ∀ args w, (callFunc gf args).run P w = .ok (.enter gf args) w)
    {σ : Type} {s0 : σ} {Step : σ → Array Value → σ → Prop} {Done : σ → Prop} {S : World → Prop} (IS : IterM P gf lb s0 Step Done S)
    (hps : ∀ s v s', Step s v s' → v.size = ps.size)
    (C : σ → World → Prop) (hC : ∀ s W W', C s W → Keeps (fun b => b = w.heap.size ∨ b = w.heap.size + 1 ∨ b = w.heap.size + 2) W W' → C s W') (hS : ∀ s W, C s W → S W)
    (h0 : C s0 w) (a₁ : Array Value → Act)
    (hassign : ∀ (l : Nat) (v : Array Value) (s s' : σ) (W : World) (K : Act → World → Prop), Step s v s' → K (a₁ v) W →
      assign.wpIn (Fence.wide.inRound l) 0 P (Exit.then K (fun _ _ _ => False)) { tmps := (ps.zip v).foldl (fun t (p, v) => t.setIfInBounds p v) a.tmps, defers := [] } W)
    (hbody : ∀ (l : Nat) (v : Array Value) (s s' : σ) (W : World), Step s v s' → C s W → w.heap.size + 2 < W.heap.size → body.wpIn (Fence.wide.inRound l) 0 P (RoundM w.heap.size W (C s')) (a₁ v) W)
    (hdone : ∀ (s : σ) (W : World), Done s → C s W → Blk W w.heap.size (.deferred (some [])) → Q .normal { a with defers := { target := .collected w.heap.size, args := #[] } :: a.defers } W) :
    (Code.rangeFunc g ps assign body).wpIn Fence.wide 0 P Q a w := by
  refine wpIn_rangeFunc ?_
  intro fn _
  show ∃ l mark w₁ d w₁' f args w₂, (Instr.enterLoop fn a.tmps ps assign body none).run P w = _ ∧ _
  obtain ⟨rec, hrec⟩ : ∃ rec : LoopState → Option Code → Loop, rec = fun st pe => { state := st, pending := pe, fn, tmps := a.tmps, params := ps, assign, body, defers := w.heap.size } := ⟨_, rfl⟩
  obtain ⟨W1, hW1⟩ : ∃ W1, (w.alloc (.deferred (some []))).alloc (.loop (rec .ready none)) = W1 := ⟨_, rfl⟩
  have hL1 : Blk W1 (w.heap.size + 1) (.loop (rec .ready none)) := by
    rw [← hW1]; have := Blk.new (w.alloc (.deferred (some []))) (.loop (rec .ready none)); rwa [World.size_alloc] at this
  have hK1 : Blk W1 w.heap.size (.deferred (some [])) := by
    rw [← hW1]; exact (Blk.new w _).alloc _
  have hX1 : Ext w W1 := by rw [← hW1]; exact ((Keeps.refl _ w).alloc _).alloc _
  have hs1 : W1.heap.size = w.heap.size + 2 := by rw [← hW1]; simp
  refine ⟨w.heap.size + 1, [{ target := .collected w.heap.size, args := #[] }], W1, { target := .fn (.func gf) lb, args := #[.func (.yield (w.heap.size + 1)) #[] #[]] }, W1, gf,
    #[.func (.yield (w.heap.size + 1)) #[] #[]] ++ lb, W1, ?_, ?_, ?_, ?_, fun h => by simp [Fence.wide] at h, ?_⟩
  · rw [← hW1, hrec]; exact run_enterLoop_outer _ _ _ _ _
  · simp only [resolve, hg]
    simp [go_sem]
  · intro f' _; trivial
  · simp [invoke, go_sem, eg]
  · let CC : σ → World → Prop := fun s W => C s W ∧ Blk W (w.heap.size + 1) (.loop (rec .ready none)) ∧ Blk W w.heap.size (.deferred (some []))
    have key := IS (w.heap.size + 1) CC W1 (fun s Wa Wb ⟨h1, h2, h3⟩ e => ⟨hC s _ _ h1 (e.mono (fun b _ h => by rw [hs1] at h; exact .inr (.inr h))), h2.keeps e (by rw [hs1]; omega), h3.keeps e (by rw [hs1]; omega)⟩)
      (fun s W h => hS s W h.1) ?_ ⟨hC s0 _ _ h0 (hX1.mono (fun _ _ h => h.elim)), hL1, hK1⟩
    · refine CallsIn.mono key ?_
      rintro e W' ⟨⟨v, rfl⟩, s, hd, h1, h3, h4⟩
      obtain ⟨ox, he⟩ : ∃ ox, (Instr.endLoop (w.heap.size + 1)).run P W' = .ok none (W'.putObj (w.heap.size + 1) ox) := ⟨_, (run_endLoop (r := rec .ready none) h3 (by rw [hrec]; simp)).trans (by rw [hrec])⟩
      exact ⟨none, _, he, hdone s _ hd (hC s _ _ h1 ((Keeps.onePut _ _ _).mono (fun b _ h => .inr (.inl h)))) (h4.put_other (by omega) _)⟩
    · rintro s v s' W hst ⟨h1, h3, h4⟩ hlt
      rw [hs1] at hlt
      refine ⟨_, _, _, _, run_yield h3 (by rw [hrec]; exact hps s v s' hst), ?_⟩
      refine roundIn_of_wpIn trivial ?_
      rw [show (rec .ready none).tmps = a.tmps from by rw [hrec], show (rec .ready none).params = ps from by rw [hrec], show (rec .ready none).assign = assign from by rw [hrec], show (rec .ready none).body = body from by rw [hrec]]
      refine hassign _ v s s' W _ hst ?_
      refine ⟨_, run_beginRound h3 (by rw [hrec]), ?_⟩
      have hb1 : C s (W.putObj (w.heap.size + 1) (.loop { rec .ready none with state := .busy })) := hC s _ _ h1 ((Keeps.onePut _ _ _).mono (fun b _ h => .inr (.inl h)))
      refine Code.wpIn_mono ?_ (hbody (w.heap.size + 1) v s s' _ hst hb1 (by rw [World.putObj_size]; exact hlt))
      have fin : ∀ (j : Option Code) (W' : World), Keeps (fun b => b ≠ w.heap.size ∧ b ≠ w.heap.size + 1 ∧ b ≠ w.heap.size + 2) (W.putObj (w.heap.size + 1) (.loop { rec .ready none with state := .busy })) W' →
          (Instr.endRound (w.heap.size + 1) j).run P W' = .ok (.bool j.isNone) (W'.putObj (w.heap.size + 1) (.loop (rec (if j.isNone then .ready else .done) j))) ∧
          Blk (W'.putObj (w.heap.size + 1) (.loop (rec (if j.isNone then .ready else .done) j))) (w.heap.size + 1) (.loop (rec (if j.isNone then .ready else .done) j)) ∧
          Blk (W'.putObj (w.heap.size + 1) (.loop (rec (if j.isNone then .ready else .done) j))) w.heap.size (.deferred (some [])) := by
        intro j W' hK
        have hl : Blk W' (w.heap.size + 1) (.loop { rec .ready none with state := .busy }) := (h3.put_same _).keeps hK (fun h => h.2.1 rfl)
        have hd : Blk W' w.heap.size (.deferred (some [])) := (h4.put_other (by omega) _).keeps hK (fun h => h.1 rfl)
        refine ⟨?_, hl.put_same _, hd.put_other (by omega) _⟩
        rw [run_endRound j hl, hrec]
      intro e a' W' hq
      cases e with
      | normal =>
        obtain ⟨hK, hc⟩ := hq
        obtain ⟨f1, f2, f3⟩ := fin none W' hK
        have k1 : Keeps (fun b => b ≠ W1.heap.size) W (W.putObj (w.heap.size + 1) (.loop { rec .ready none with state := .busy })) := (Keeps.onePut _ _ _).mono (fun b _ h => by have h : b = w.heap.size + 1 := h; rw [hs1]; omega)
        have k2 : Keeps (fun b => b ≠ W1.heap.size) (W.putObj (w.heap.size + 1) (.loop { rec .ready none with state := .busy })) W' := hK.mono (fun b _ h => by rw [hs1]; exact h.2.2)
        have k3 : Keeps (fun b => b ≠ W1.heap.size) W' (W'.putObj (w.heap.size + 1) (.loop (rec .ready none))) := (Keeps.onePut _ _ _).mono (fun b _ h => by have h : b = w.heap.size + 1 := h; rw [hs1]; omega)
        exact ⟨_, _, f1, rfl, (k1.trans k2).trans k3, hC s' _ _ hc ((Keeps.onePut _ _ _).mono (fun b _ h => .inr (.inl h))), f2, f3⟩
      | _ => exact hq.elim
end
end Go.Proofs.YtllbcjclibbogaaGreatDoor
/- canon: the keys of a map, in order. -/
namespace Go.Proofs.YtllbcjclibbogaaGreatDoor
section
open Go Go.RowKit
set_option linter.unusedSimpArgs false
set_option linter.unusedVariables false
attribute [local go_sem] Oper.semAt_some
abbrev EntS := Ent (List UInt8)
theorem Tryz.uMapSE : Tryz.prog.underlying 84 = some (.map 9 51) := by kernel_rfl
def bornS (s : List EntS) : Array Nat := (s.map (·.2.2)).toArray
def KStep (es : List EntS) (s : List EntS) (v : Array Value) (s' : List EntS) : Prop := ∃ x ∈ entLeft es (bornS s), v = #[str x.1] ∧ s' = s ++ [x]
def KDone (es : List EntS) (s : List EntS) : Prop := entLeft es (bornS s) = []
def seenAt (w : World) (r : Nat) : Array Nat := match w.heap[r]? with | some (.mapIter _ _ s _) => s | _ => #[]
theorem seenAt_blk {w : World} {r : Nat} {m : Option Nat} {a b : Nat} {s : Array Nat} (h : Blk w r (.mapIter m a s b)) : seenAt w r = s := by
  unfold seenAt; rw [show w.heap[r]? = _ from h]
theorem left_lt {es : List EntS} {s : List EntS} {x : EntS} (hx : x ∈ entLeft es (bornS s)) : (entLeft es (bornS (s ++ [x]))).length < (entLeft es (bornS s)).length := by
  have e : entLeft es (bornS (s ++ [x])) = (entLeft es (bornS s)).filter (fun y => !(y.2.2 == x.2.2)) := by
    unfold entLeft bornS
    rw [List.filter_filter]
    refine List.filter_congr (fun y _ => ?_)
    simp only [List.contains_toArray, List.map_append, List.map_cons, List.map_nil, List.contains_append]
    by_cases h1 : y.2.2 = x.2.2 <;> simp [h1]
  rw [e, List.length_filter_lt_length_iff_exists]
  exact ⟨x, hx, by simp⟩
def KyS (bx bm ck : Nat) (es : List EntS) (W : World) : Prop := Blk W bx (.cells #[.map (some bm)] 84) ∧ Blk W bm (.map (Tryz.ES.arr es) ck)
def KyRel (r bm ck : Nat) (es : List EntS) (C : List EntS → World → Prop) (wr : World) : Prop := ∃ s, C s wr ∧ Blk wr r (.mapIter (some bm) ck (bornS s) ck)
set_option maxRecDepth 100000 in
set_option maxHeartbeats 2000000 in
theorem keys_it (bx bm ck : Nat) (es : List EntS) (hnd : (es.map (·.2.2)).Nodup) (hlt : ∀ x ∈ es, x.2.2 < ck) :
    IterM Tryz.prog 81 #[.pointer (some ⟨bx, 0, none⟩)] ([] : List EntS) (KStep es) (KDone es) (KyS bx bm ck es) := by
  intro l C W hC hS hY h0
  obtain ⟨hx, hm⟩ := hS _ _ h0
  have c1 := hx.cell (i := 0) (v := .map (some bm)) (by rfl)
  have hrg := run_range Tryz.ES Tryz.uMapSE hm
  have HC0 := Lib.hid (show C [] (W.alloc (.mapIter (some bm) ck #[] ck)) from hC [] _ _ h0 (((ExtR W).alloc _).mono (fun _ _ h => h.elim)))
  have HC := Lib.hid hC
  have HS := Lib.hid hS
  have HY := Lib.hid hY
  have HND := Lib.hid hnd
  have HLT := Lib.hid hlt
  clear hC hS hY h0 hx hm hnd hlt
  refine callsIn_of_wp Tryz.func81 rfl trivial ?_ rfl
  simp only [Tryz.ntmps81, List.size_toArray, List.length_cons, List.length_nil, Nat.reduceAdd, Nat.reduceSub, Array.replicate_succ, Array.replicate_zero, List.push_toArray, List.append_toArray, List.nil_append, List.cons_append]
  gi_wp2_with fail
  obtain ⟨r, hr⟩ : ∃ r, r = W.heap.size := ⟨_, rfl⟩
  have HR := Lib.hid hr
  rw [← hr]
  clear hr
  gi_loopw [] (fun wr => KyRel r bm ck es C wr) (fun wr => (entLeft es (seenAt wr r)).length)
  case atStart => exact ⟨[], HC0.out, by rw [HR.out]; exact Blk.new W _⟩
  case round =>
    obtain ⟨s, hCs, hB⟩ := hrel
    obtain ⟨hx, hm⟩ := HS.out _ _ hCs
    rcases run_next Tryz.ES hm hB HLT.out 0 with ⟨hl0, hnx⟩ | ⟨x, hxl, w2, hnx, hr2, hk2⟩
    · have HDN := Lib.hid (show KDone es s from hl0)
      have HCs := Lib.hid hCs
      clear hl0 hCs hx hm hB HC HS HY HND HLT HC0 c1 hrg
      gi_wp2_with fail
      refine bodyPost_end (results_none rfl _ _ _) rfl ?_
      exact ⟨⟨_, rfl⟩, s, HDN.out, HCs.out⟩
    · have hne : r ≠ bm := fun e => by have := hm.uniq (e ▸ hB); cases this
      have hm2 := hm.keeps hk2 (fun e => hne e.symm)
      have hxm : x ∈ es := (List.mem_filter.1 hxl).1
      have hen := run_entry Tryz.ES hm2 hxm hr2 HND.out
      have hC2 : C s w2 := HC.out s _ _ hCs (hk2.mono (fun b _ e => by rw [← HR.out]; exact e))
      obtain ⟨fn, tm, asg, bd, hyr, hrd⟩ := HY.out s #[str x.1] (s ++ [x]) w2 ⟨x, hxl, rfl, rfl⟩ hC2 (by rw [← HR.out]; exact hr2.lt)
      have hyr' : (Instr.yield l #[Tryz.ES.κ x.1]).run Tryz.prog w2 = .ok (.round l fn tm asg bd) w2 := hyr
      have HXL := Lib.hid hxl
      have HSN := Lib.hid (seenAt_blk hB)
      have hbs : (bornS s).push x.2.2 = bornS (s ++ [x]) := by unfold bornS; simp
      rw [hbs] at hr2
      have HR2 := Lib.hid hr2
      have HRD := Lib.hid hrd
      clear hyr hC2 hCs hx hm hB HC HS HND HLT HC0 c1 hrg hm2 hk2 hxl hxm hr2 hrd hbs hne
      gi_wp2_with fail
      refine ⟨rfl, HRD.out.mono ?_⟩
      rintro e w5 ⟨rfl, k5, C5⟩
      have HB5 := Lib.hid (HR2.out.keeps k5 (fun h => h HR.out))
      have HC5 := Lib.hid C5
      clear C5 k5 hnx hen hyr'
      gi_wp2_with fail
      go_roundw
      case rel => exact ⟨_, HC5.out, HB5.out⟩
      case measure =>
        rw [seenAt_blk HB5.out, HSN.out]; exact left_lt HXL.out
end
end Go.Proofs.YtllbcjclibbogaaGreatDoor
/- canon: the keys of a map, as a row, in order. -/
namespace Go.Proofs.YtllbcjclibbogaaGreatDoor
section
open Go Go.RowKit
set_option linter.unusedSimpArgs false
set_option linter.unusedVariables false
attribute [local go_sem] Oper.semAt_some
def keyB (x : EntS) : ByteArray := ⟨x.1.toArray⟩
theorem str_keyB (x : EntS) : str x.1 = .string (keyB x) := rfl
theorem Tryz.enterKeys1 : ∀ args w, (callFunc 81 args).run Tryz.prog w = .ok (.enter 81 args) w := fun _ _ => by kernel_rfl
def InvS (es s : List EntS) : Prop := (s.map (·.2.2)).Nodup ∧ ∀ x ∈ s, x ∈ es
theorem InvS.step {es s s' : List EntS} {v : Array Value} (h : InvS es s) (k : KStep es s v s') : InvS es s' := by
  obtain ⟨x, hx, _, rfl⟩ := k
  obtain ⟨h1, h2⟩ := List.mem_filter.1 hx
  have h2 : x.2.2 ∉ s.map (·.2.2) := by simpa [bornS] using h2
  refine ⟨?_, fun z hz => ?_⟩
  · rw [List.map_append, List.nodup_append]
    exact ⟨h.1, by simp, fun a ha b hb e => by simp at hb; subst hb; subst e; exact h2 ha⟩
  · rcases List.mem_append.1 hz with hz | hz
    · exact h.2 z hz
    · simp at hz; exact hz ▸ h1
theorem InvS.len {es s : List EntS} (h : InvS es s) : s.length ≤ es.length := by
  have := List.Nodup.length_le_of_subset h.1 (l₂ := es.map (·.2.2)) (fun k hk => by
    obtain ⟨z, hz, e⟩ := List.mem_map.1 hk; exact List.mem_map.2 ⟨z, h.2 z hz, e⟩)
  simpa using this
theorem InvS.perm {es s : List EntS} (h : InvS es s) (hd : KDone es s) (hst : (es.map (·.2.2)).Nodup) (hkn : (es.map (·.1)).Nodup) : (s.map (·.1)).Perm (es.map (·.1)) := by
  have hsub : ∀ x ∈ es, x ∈ s := by
    intro x hx
    by_cases hc : x.2.2 ∈ s.map (·.2.2)
    · obtain ⟨z, hz, e⟩ := List.mem_map.1 hc
      have := nodup_map_inj hst (h.2 z hz) hx e
      exact this ▸ hz
    · have : x ∈ entLeft es (bornS s) := by
        refine List.mem_filter.2 ⟨hx, ?_⟩
        simpa [bornS] using hc
      rw [hd] at this; cases this
  have hnd : (s.map (·.1)).Nodup := by
    have h1 := h.1
    have h2 := h.2
    clear h hd hsub
    induction s with
    | nil => simp
    | cons z r ih =>
      rw [List.map_cons, List.nodup_cons] at h1 ⊢
      refine ⟨fun hm => ?_, ih h1.2 (fun x hx => h2 x (List.mem_cons_of_mem _ hx))⟩
      obtain ⟨y, hy, e⟩ := List.mem_map.1 hm
      have := nodup_map_inj hkn (h2 y (List.mem_cons_of_mem _ hy)) (h2 z (List.mem_cons_self ..)) e
      exact h1.1 (List.mem_map.2 ⟨y, hy, by rw [this]⟩)
  refine perm_of_mem_iff hnd hkn fun k => ?_
  constructor
  · intro hk; obtain ⟨z, hz, e⟩ := List.mem_map.1 hk; exact List.mem_map.2 ⟨z, h.2 z hz, e⟩
  · intro hk; obtain ⟨z, hz, e⟩ := List.mem_map.1 hk; exact List.mem_map.2 ⟨z, hsub z hz, e⟩
/-- Where the round stands. -/
structure AppS (w : World) (es s : List EntS) (W : World) : Prop where
  ext : Ext w W
  inv : InvS es s
  var : ∃ v, Blk W w.heap.size (.cells #[v] 29) ∧ W.ownsRow 0 9 1 v s.length ((s.map keyB).map Value.string) ∧ ∀ b, v.ownBlock = some b → w.heap.size + 4 ≤ b
theorem AppS.st {w : World} {es s : List EntS} {W W' : World} (h : AppS w es s W) (k : Keeps (fun b => b = w.heap.size + 1 ∨ b = w.heap.size + 1 + 1 ∨ b = w.heap.size + 1 + 2) W W') : AppS w es s W' := by
  obtain ⟨v, h1, h2, h3⟩ := h.var
  exact ⟨h.ext.trans' k (fun x hx e => by omega), h.inv, v, h1.keeps k (by omega), own_keeps h2 k (fun b hb e => by have := h3 b hb; omega), h3⟩
set_option maxRecDepth 100000 in
set_option maxHeartbeats 4000000 in
theorem appseq_c (w : World) (bx bm ck : Nat) (es : List EntS) (hk : KyS bx bm ck es w) (hnd : (es.map (·.2.2)).Nodup) (hlt : ∀ x ∈ es, x.2.2 < ck) (hlen : es.length ≤ 1000000) :
    Calls Tryz.prog 114 #[.slice none 0 0, .func (.func 81) #[] #[.pointer (some ⟨bx, 0, none⟩)]] w fun e w' => ∃ u s, e = .returned u ∧ InvS es s ∧ KDone es s ∧ SRow w w' u s.length (s.map keyB) := by
  have HIT := Lib.hid (keys_it bx bm ck es hnd hlt)
  have HK := Lib.hid hk
  clear hk hnd hlt
  rw [← callsIn_wide (n := 0)]
  refine callsIn_of_wp_marks Tryz.func114 rfl trivial ?_ rfl
  simp only [Tryz.ntmps114, List.size_toArray, List.length_cons, List.length_nil, Nat.reduceAdd, Nat.reduceSub, Array.replicate_succ, Array.replicate_zero, List.push_toArray, List.append_toArray, List.nil_append, List.cons_append]
  gi_wp2_with fail
  obtain ⟨w1, hw1⟩ : ∃ w1, w1 = w.alloc (.cells #[.slice none 0 0] 29) := ⟨_, rfl⟩
  rw [← hw1]
  have hs1 : w1.heap.size = w.heap.size + 1 := by rw [hw1]; simp
  have S0 : AppS w es [] w1 := by
    rw [hw1]
    exact ⟨(ExtR w).alloc _, ⟨by simp, fun x hx => by cases hx⟩, _, Blk.new w _, World.ownsRow_nil _ _ _ _, fun b hb => by cases hb⟩
  have HS0 := Lib.hid S0
  clear S0 hw1
  refine wp_rangeM (gf := 81) (lb := #[.pointer (some ⟨bx, 0, none⟩)]) rfl Tryz.enterKeys1 HIT.out
    (fun s v s' h => by obtain ⟨x, _, rfl, _⟩ := h; rfl) (AppS w es) (fun s W W' h k => h.st (by rw [hs1] at k; exact k)) (fun s W h => ⟨HK.out.1.keeps h.ext (fun h => h), HK.out.2.keeps h.ext (fun h => h)⟩) HS0.out
    (fun v => { tmps := #[.slice none 0 0, .func (.func 81) #[] #[.pointer (some ⟨bx, 0, none⟩)], .pointer (some ⟨w.heap.size, 0, none⟩), undef, .slice none 0 0, v.getD 0 undef, .func (.func 81) #[] #[.pointer (some ⟨bx, 0, none⟩)], v.getD 0 undef, undef, undef, undef, undef, undef], defers := [] })
    ?hassign ?hbody ?hdone
  case hassign =>
    intro l2 v s s' W K hst hK
    obtain ⟨x, _, rfl, _⟩ := hst
    rw [str_keyB] at hK ⊢
    rw [fold1]
    simp only [List.set_cons_zero, List.set_cons_succ]
    gi_wp2
    exact hK
  case hbody =>
    intro l2 v s s' W hst h hlt
    have hinv := h.inv.step hst
    obtain ⟨x, hx, rfl, rfl⟩ := hst
    obtain ⟨v, h1, h2, h3⟩ := h.var
    obtain ⟨ad, cp, rfl⟩ := row_slice h2
    rw [str_keyB]
    obtain ⟨q, hq⟩ : ∃ q, q = keyB x := ⟨_, rfl⟩
    rw [← hq]
    have hln : s.length ≤ 1000000 := Nat.le_trans h.inv.len hlen
    have hV := h1.cell (i := 0) (v := .slice ad s.length cp) (by rfl)
    have hVf : W.frozen? ⟨w.heap.size, 0, none⟩ = false := h1.frozen
    obtain ⟨n, hn⟩ : ∃ n, n = s.length := ⟨_, rfl⟩
    rw [← hn] at h2 hln hV h1 h3
    have hlt : w.heap.size + 3 < W.heap.size := by rw [hs1] at hlt; omega
    have HN := Lib.hid hn
    have HQ := Lib.hid hq
    have HV := Lib.hid h1
    have HO := Lib.hid h2
    have H3 := Lib.hid h3
    have HE := Lib.hid h.ext
    have HI := Lib.hid hinv
    rw [show (#[Value.string q] : Array Value).getD 0 undef = .string q from rfl]
    clear h h1 h2 h3 hinv hx hn hq HS0
    obtain ⟨i0, hi, hz0, hz1, hz2⟩ := info_parts Tryz.infoStr
    gi_wp2_with (gi_at_builtin; refine wpListIn_append_any _ rfl (.tmp 8) (.tmp 10) 29 rfl 9 i0 _ 1 16 Tryz.uStrs hi hz0 hz1 hz2 rfl (by decide) (.slice ad n cp) n _ rfl (own_ext HO.out ((ExtR W).alloc _)) ⟨W.heap.size, 0, none⟩ 1 1 [.string q] rfl rfl (news_blk (Blk.new W _)) (by simp [Value.oneCell']) (by unfold maxLen; omega) (by omega) ?_; intro v' w6 r1 r2 r3; obtain ⟨ad', cp', rfl⟩ := row_slice r1; have hV6 := (HV.out.alloc _).keeps r2 (fun e => by have := H3.out _ e; omega); have q56 : w6.cell? ⟨w.heap.size, 0, none⟩ = some (.slice ad n cp) := hV6.cell (i := 0) (by rfl); have f56 : w6.frozen? ⟨w.heap.size, 0, none⟩ = false := hV6.frozen)
    have r1' : w6.ownsRow 0 9 1 (.slice ad' (n + 1) cp') (s ++ [x]).length (((s ++ [x]).map keyB).map Value.string) := by
      rw [List.length_append, ← HN.out, List.map_append, List.map_append]
      have := r1; rw [HQ.out] at this; exact this
    have K6 : Keeps (fun b => (Value.slice ad n cp).ownBlock = some b) W w6 := ((Keeps.refl _ W).alloc _).trans r2
    have hv' : ∀ b, (Value.slice ad' (n + 1) cp').ownBlock = some b → w.heap.size + 4 ≤ b := fun b hb => by
      rcases r3 with r3 | r3
      · exact H3.out b (r3 ▸ hb)
      · have h9 := r3 b hb; rw [World.size_alloc] at h9; omega
    have K7 : Keeps (fun b => b = w.heap.size) w6 (w6.setCell ⟨w.heap.size, 0, none⟩ (.slice ad' (n + 1) cp')) := Keeps.oneSet w6 ⟨w.heap.size, 0, none⟩ _
    refine ⟨(K6.mono (fun y _ e => ?_)).trans (K7.mono (fun y _ e => ?_)), ?_⟩
    · have := H3.out y e; rw [hs1]; omega
    · have e : y = _ := e; rw [hs1]; omega
    · exact ⟨(HE.out.trans' K6 (fun y hy e => by have := H3.out y e; omega)).trans' K7 (fun y hy e => by have e : y = _ := e; omega), HI.out,
        _, hV6.set_same (i := 0) _, own_keeps r1' K7 (fun b hb e => by have := hv' b hb; omega), hv'⟩
  case hdone =>
    intro s W hdn h hd
    obtain ⟨v, h1, h2, h3⟩ := h.var
    obtain ⟨ad, cp, rfl⟩ := row_slice h2
    have q5 : W.cell? ⟨w.heap.size, 0, none⟩ = some (.slice ad s.length cp) := h1.cell (i := 0) (by rfl)
    have H2 := Lib.hid h2
    have H3 := Lib.hid h3
    have HX := Lib.hid h.ext
    have HI := Lib.hid h.inv
    have HDN := Lib.hid hdn
    have HD := Lib.hid hd
    clear h h1 h2 h3 hd hdn HS0
    gi_wp2_with fail
    refine ⟨by simp, .inl ⟨_, _, rfl, run_takeDeferred HD.out, ?_⟩⟩
    refine ⟨_, results_tmp rfl _ _ _, ?_⟩
    have hK := Keeps.onePut W w1.heap.size (.deferred none)
    exact ⟨.slice ad s.length cp, s, rfl, HI.out, HDN.out, ⟨_, _, rfl⟩, own_keeps H2.out hK (fun b hb e => by have := H3.out b hb; rw [hs1] at e; omega), HX.out.putObj (.inr (by omega)) _, fun b hb => by have := H3.out b hb; omega⟩
end
end Go.Proofs.YtllbcjclibbogaaGreatDoor
