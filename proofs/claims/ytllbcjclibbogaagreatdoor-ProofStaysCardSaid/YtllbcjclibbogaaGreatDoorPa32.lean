/- Parts of the proof, one behind the other: PrfI, PairEq, CanonKt, CanonP, PrfJ, ShaG, Clash2, ClashA, NibbleE. Each is under no condition but those that it states. -/
import Derived.Test.YtllbcjclibbogaaGreatDoorPa31
import Derived.Test.YtllbcjclibbogaaGreatDoorPa18
import Derived.Test.YtllbcjclibbogaaGreatDoorPa19
import Derived.Test.YtllbcjclibbogaaGreatDoorPa21
import Derived.Test.YtllbcjclibbogaaGreatDoorPa8
import Derived.Test.YtllbcjclibbogaaGreatDoorPa9
import Derived.Test.YtllbcjclibbogaaGreatDoorPa26
import Derived.Test.YtllbcjclibbogaaGreatDoorPa17
/- proof: met; prove. -/
namespace Go.Proofs.YtllbcjclibbogaaGreatDoor
section
open Go Go.RowKit
set_option linter.unusedSimpArgs false
set_option linter.unusedVariables false
attribute [local go_sem] Oper.semAt_some
theorem run_good (w : World) : ∀ (f : Nat) (ts : List ByteArray) (n : NodeT) (p : ByteArray) (d : Nat), GoodW (InlD d) n → validN p = true → p.size ≤ f → ∀ x ∈ (runN f ts n p).1, ∃ d, GoodW (InlD d) x.1
  | f, ts, n, p, d, hg, hp, hf, x, hx => by
    obtain ⟨⟨r, q⟩, hs⟩ : ∃ rq, stepN n p = rq := ⟨_, rfl⟩
    have one : x ∈ [(n, p)] → ∃ d, GoodW (InlD d) x.1 := fun h => by
      obtain rfl := List.mem_singleton.1 h
      exact ⟨d, hg⟩
    rcases run_at w hg hp hf hs (rfl : runN f ts n p = runN f ts n p) with ⟨_, e⟩ | ⟨_, g, rfl, h1, h2, h3, h⟩
    · rw [e] at hx; exact one hx
    · have more : ∀ ts' m d', GoodW (InlD d') m → x ∈ (n, p) :: (runN g ts' m q).1 → ∃ d, GoodW (InlD d) x.1 := fun ts' m d' hm h => by
        rcases List.mem_cons.1 h with h | h
        · exact one (by rw [h]; simp)
        · exact run_good w g ts' m q d' hm h3 h1 x h
      rcases h with ⟨d', m, rfl, hI, hgd, e⟩ | ⟨hh, _, _, e⟩
      · rw [e] at hx; exact more _ _ _ hgd hx
      · cases ts with
        | nil => rw [e] at hx; exact one hx
        | cons t ts =>
          rw [e] at hx
          have hx : x ∈ (if shaB t = hh then (match getN t with
              | some m => ((n, p) :: (runN g ts m q).1, (runN g ts m q).2)
              | none => ([(n, p)], t :: ts, false))
            else ([(n, p)], t :: ts, false)).1 := hx
          by_cases he : shaB t = hh
          · rw [if_pos he] at hx
            cases hgt : getN t with
            | none => rw [hgt] at hx; exact one hx
            | some m =>
              rw [hgt] at hx
              obtain ⟨d', hm⟩ := getN_good hgt
              exact more _ _ _ hm hx
          · rw [if_neg he] at hx; exact one hx
theorem vis_good (w : World) {root p : ByteArray} {nodes : List ByteArray} {vs : List (NodeT × ByteArray)} {rest : List ByteArray} {okf : Bool} (h : proveN root p nodes = (vs, rest, okf)) (hp : validN p = true) : ∀ x ∈ vs, ∃ d, GoodW (InlD d) x.1 := by
  rcases prove_at h with ⟨_, rfl, _⟩ | ⟨m, h1, h2, _⟩
  · intro x hx; cases hx
  · obtain ⟨d, hg⟩ := getN_good (show ∃ t, getN t = some m from by
      unfold takeN at h1
      split at h1
      · cases h1
      · split at h1
        · exact ⟨_, h1⟩
        · cases h1).choose_spec
    have := run_good w p.size (nodes.drop 1) m p d hg hp (Nat.le_refl _)
    rw [h2] at this
    exact this
theorem atV_mem {vs : List (NodeT × ByteArray)} {k : Nat} (h : k < vs.length) : atV vs k ∈ vs := by
  unfold atV; rw [List.getD_eq_getElem?_getD, List.getElem?_eq_getElem h]; exact List.getElem_mem _
theorem last_take {vs : List (NodeT × ByteArray)} {k : Nat} (h : k < vs.length) : lastCl (vs.take (k + 1)) = claimN (atV vs k).1 (atV vs k).2 := by
  unfold lastCl atV
  rw [List.take_add_one, List.getElem?_eq_getElem h, Option.toList_some, List.getLast?_concat, List.getD_eq_getElem?_getD, List.getElem?_eq_getElem h]; rfl
def MetP (wb : Nat) (p : ByteArray) (W : World) (e : Ending) (w' : World) : Prop := e = .returned (.func (.func 122) #[] #[.pointer (some ⟨W.heap.size, 0, none⟩), .pointer (some ⟨W.heap.size + 1, 0, none⟩)]) ∧ w' = (W.alloc (.cells #[.pointer (some ⟨wb, 0, none⟩)] 175)).alloc (.cells #[.string p] 9)
theorem met_c (W : World) (wb : Nat) (p : ByteArray) : Calls Tryz.prog 87 #[.pointer (some ⟨wb, 0, none⟩), .string p] W (MetP wb p W) := by
  go_enter Tryz.func87, Tryz.ntmps87
  go_wp2
  go_ret
  exact ⟨rfl, rfl⟩
theorem Tryz.allocWay : ∀ w, (Instr.alloc 143 true (.tuple #[])).run Tryz.prog w = .ok (.pointer (some ⟨w.heap.size, 0, none⟩)) (w.alloc (.cells [.string ⟨#[]⟩, .slice none 0 0, .int .i64 0, .nilIface].toArray 143)) := fun w => by kernel_rfl
theorem Tryz.szWay : (Tryz.prog.info? 143).map (·.size) = some 4 := by kernel_rfl
theorem Tryz.enterMet1 : ∀ args w, (callFunc 122 args).run Tryz.prog w = .ok (.enter 122 args) w := fun _ _ => by kernel_rfl
noncomputable def proveR (root key : ByteArray) (nodes : List ByteArray) : Option ByteArray × Bool :=
  if 40 < nodes.length then (none, false) else (lastCl (proveN root (pathB key) nodes).1, (proveN root (pathB key) nodes).2.2 && (proveN root (pathB key) nodes).2.1.isEmpty)
def ProveP (W : World) (r : Option ByteArray × Bool) (e : Ending) (w' : World) : Prop :=
  Ext W w' ∧ ∃ ev, e = .returned (.tuple #[clmV r.1, ev]) ∧ ((r.2 = true ∧ ev = .nilIface) ∨ (r.2 = false ∧ ∃ (b : Nat) (k : Int), ev = .iface 139 (.pointer (some ⟨b, 0, none⟩)) ∧ Blk w' b (.cells #[.int .i64 k, prfE] 141)))
set_option maxRecDepth 100000 in
set_option maxHeartbeats 4000000 in
theorem prove_long (W : World) (root key : ByteArray) (a : Option Addr) (n c : Nat) (h : 40 < n) : Calls Tryz.prog 49 #[.string root, .string key, .slice a n c] W (ProveP W (none, false)) := by
  have c1 : (40 : Int) < (n : Int) := by omega
  go_enter Tryz.func49, Tryz.ntmps49
  go_wp2_with (first | (refine wpList_new Tryz.allocClaim rfl rfl ?_; intro W1 hB1 hE1; have hB2 := hB1.alloc (.cells #[.int .i64 40, prfE] 141)) | (refine wpList_fill (old := clmL none) (vs := clmL none) rfl rfl rfl rfl hB2 rfl Tryz.szClaim (clm_one _) ?_; intro W8 hB8 hE8))
  refine bodyPost_ret (results_cell_tmp rfl rfl rfl (run_loadVar_clm hB8)) rfl ?_
  have hz := hE1.size
  have hX : Ext W1 (W1.alloc (.cells #[.int .i64 40, prfE] 141)) := (ExtR W1).alloc _
  have hlt := hB1.lt
  exact ⟨(hE1.trans hX).trans' hE8 (fun x hx e => by have e : x = W.heap.size := e; omega), _, rfl, .inr ⟨rfl, W1.heap.size, 40, rfl, (Blk.new W1 _).keeps hE8 (fun e => by have e : W1.heap.size = W.heap.size := e; omega)⟩⟩
theorem rds_sl {W : World} {v : Value} {l : List ByteArray} (h : RdS W v l) : ∃ a c, v = .slice a l.length c := by
  rcases h with ⟨a, c, h1, h2⟩ | ⟨b, o, c, h1, _⟩
  · exact ⟨a, c, by rw [h1, h2]; rfl⟩
  · exact ⟨_, c, h1⟩
def prvAct (W : World) (key root : ByteArray) (b1 wb pc cb : Nat) (a : Option Addr) (n c : Nat) (vs : List (NodeT × ByteArray)) (k g : Nat) : Act :=
  { tmps := #[.string root, .string key, .slice a n c, undef, undef, undef, .pointer (some ⟨W.heap.size, 0, none⟩), .nilIface, .pointer (some ⟨wb, 0, none⟩), .pointer (some ⟨cb, 0, none⟩), .pointer (some ⟨g, 0, none⟩), .string (atV vs k).2, .slice a n c, .int .i64 (n : Int), .bool false, undef, undef, undef, undef, undef, .string root, .slice a n c,
      .agg #[.string root, .slice a n c, .int .i64 0, .nilIface], .string key, .string (pathB key), .func (.func 122) #[] #[.pointer (some ⟨b1, 0, none⟩), .pointer (some ⟨pc, 0, none⟩)], (atV vs k).1.V, .string (atV vs k).2,
      undef, undef, undef, undef, undef, undef, undef, undef, undef, undef, undef, undef, undef, undef, undef, undef, undef], defers := [] }
theorem WayAt.errc {W : World} {wb : Nat} {root : ByteArray} {v : Value} {u : Nat} {ev : Value} (h : WayAt W wb root v u ev) : W.cell? ⟨wb, 3, none⟩ = some ev := Blk.cell (i := 3) h (by rfl)
structure ClC (cb : Nat) (vs : List (NodeT × ByteArray)) (k : Nat) (D : BSet) (W : World) : Prop where
  is : ∀ b, D b ↔ b = cb
  blk : Blk W cb (.cells (clmL (lastCl (vs.take k))).toArray 46)
theorem ClC.supp (cb : Nat) (vs : List (NodeT × ByteArray)) (k : Nat) : Supp (ClC cb vs k) := ⟨fun D W h b hb => by rw [(h.is b).1 hb]; exact h.blk.lt, fun D W W' h hz hb => ⟨h.is, (hb cb ((h.is cb).2 rfl)).trans h.blk⟩⟩
set_option maxRecDepth 100000 in
set_option maxHeartbeats 8000000 in
theorem prove_short (W : World) (hc : Cubes W) (root key : ByteArray) (hk : key.size ≤ 1000) (v : Value) (nodes : List ByteArray) (hv : RdS W v nodes) (hn : nodes.length ≤ 40) (hG : GetAll W nodes) (vs : List (NodeT × ByteArray)) (rest : List ByteArray) (okf : Bool) (hvs : proveN root (pathB key) nodes = (vs, rest, okf)) :
    Calls Tryz.prog 49 #[.string root, .string key, v] W (ProveP W (lastCl vs, okf && rest.isEmpty)) := by
  obtain ⟨a, c, hsl⟩ := rds_sl hv
  have HV := Lib.hid hv
  have HC := Lib.hid hc
  have HGA := Lib.hid hG
  have HVS := Lib.hid hvs
  have HK := Lib.hid hk
  have HN := Lib.hid hn
  obtain ⟨n, hn'⟩ : ∃ n, n = nodes.length := ⟨_, rfl⟩
  rw [← hn'] at hsl hn
  have HNN := Lib.hid hn'
  have c1 : ¬ (40 : Int) < (n : Int) := by omega
  have HSL := Lib.hid hsl
  clear hv hc hG hvs hk hn hn'
  subst hsl
  rw [← callsIn_wide (n := 0)]
  refine callsIn_of_wp_marks Tryz.func49 rfl trivial ?_ rfl
  simp only [Tryz.ntmps49, List.size_toArray, List.length_cons, List.length_nil, Nat.reduceAdd, Nat.reduceSub, Array.replicate_succ, Array.replicate_zero, List.push_toArray, List.append_toArray, List.nil_append, List.cons_append]
  gi_wp2_with (first | (refine wpListIn_newW Tryz.allocClaim rfl rfl ?_; have hB33 := hB3; intro W4 hB4 hE4) | (refine wpListIn_newW Tryz.allocClaim rfl rfl ?_; intro W1 hB1 hE1) | (refine wpListIn_newW Tryz.allocWay rfl rfl ?_; intro W2 hB2 hE2) | (refine wpListIn_fillW (vs := [.string root, .slice a n c, .int .i64 0, .nilIface]) rfl rfl rfl rfl hB2 rfl Tryz.szWay (by intro v hv; simp at hv; rcases hv with rfl | rfl | rfl | rfl <;> rfl) ?_; intro W3 hB3 hE3))
  have hX3 : Ext W1 W3 := hE2.trans' hE3 (fun x hx e => by have e : x = W1.heap.size := e; omega)
  have hX4 := (hE1.trans hX3).trans hE4
  have hz1 := hE1.size
  have hz13 := hX3.size
  have hlt1 := hB1.lt
  have hlt3 := hB3.lt
  have hB1' := (hB1.keeps hX3 (fun h => h)).keeps hE4 (fun h => h)
  have hB3' := hB3.keeps hE4 (fun h => h)
  refine ⟨trivial, rfl, CallsIn.mono (callsIn_wide.2 (path_c W4 key (by have := HK.out; omega))) ?_⟩
  rintro e W5 ⟨rfl, hE5⟩
  have hX5 := hX4.trans hE5
  have HB1 := Lib.hid (hB1'.keeps hE5 (fun h => h))
  have HB3 := Lib.hid (hB3'.keeps hE5 (fun h => h))
  have HB4 := Lib.hid (hB4.keeps hE5 (fun h => h))
  have HX5 := Lib.hid hX5
  have hz35 : W3.heap.size < W5.heap.size := Nat.lt_of_lt_of_le hB4.lt hE5.size
  have HZ := Lib.hid (show W.heap.size < W1.heap.size ∧ W1.heap.size < W3.heap.size ∧ W3.heap.size < W5.heap.size from ⟨by omega, by omega, hz35⟩)
  obtain ⟨wb, hwb⟩ : ∃ wb, wb = W1.heap.size := ⟨_, rfl⟩
  obtain ⟨cb, hcb⟩ : ∃ cb, cb = W3.heap.size := ⟨_, rfl⟩
  rw [← hwb, ← hcb] at HZ
  rw [← hwb] at HB3
  rw [← hcb] at HB4
  rw [← hwb, ← hcb]
  clear hB1 hE1 hB2 hE2 hB3 hE3 hB33 hB4 hE4 hX3 hX4 hz1 hz13 hlt1 hlt3 hB1' hB3' hE5 hX5 hz35 hwb hcb
  gi_wp2_with fail
  refine ⟨trivial, rfl, CallsIn.mono (callsIn_wide.2 (met_c W5 wb (pathB key))) ?_⟩
  rintro e W6 ⟨rfl, hW6⟩
  have hX6 : Ext W5 W6 := by rw [hW6]; exact ((ExtR W5).alloc _).trans ((ExtR _).alloc _)
  have hc6 : Blk W6 W5.heap.size (.cells #[.pointer (some ⟨wb, 0, none⟩)] 175) := by rw [hW6]; exact (Blk.new W5 _).alloc _
  have hp6 : Blk W6 (W5.heap.size + 1) (.cells #[.string (pathB key)] 9) := by
    rw [hW6]; have := Blk.new (W5.alloc (.cells #[.pointer (some ⟨wb, 0, none⟩)] 175)) (.cells #[.string (pathB key)] 9); rwa [World.size_alloc] at this
  have hz6 : W6.heap.size = W5.heap.size + 2 := by rw [hW6]; simp
  clear hW6
  obtain ⟨b1, hb1⟩ : ∃ b1, b1 = W5.heap.size := ⟨_, rfl⟩
  obtain ⟨pc, hpc⟩ : ∃ pc, pc = W5.heap.size + 1 := ⟨_, rfl⟩
  have HZ2 := Lib.hid (show b1 = W5.heap.size ∧ pc = b1 + 1 ∧ W6.heap.size = b1 + 2 from ⟨hb1, by omega, by omega⟩)
  rw [← hb1] at hc6
  rw [← hpc] at hp6
  rw [← hb1]
  rw [← hb1] at hpc
  rw [← hpc]
  have HX6 := Lib.hid (HX5.out.trans hX6)
  have HB1' := Lib.hid (HB1.out.keeps hX6 (fun h => h))
  have hB3 := HB3.out.keeps hX6 (fun h => h)
  have hB4 := HB4.out.keeps hX6 (fun h => h)
  clear HB1 HB3 HB4 hb1 hpc hz6 hX6
  gi_wp2_with fail
  have hPS : PrS W wb (.slice a n c) nodes := ⟨HC.out, HV.out, by have := HZ.out; omega, by have := HN.out; omega, HGA.out⟩
  have hS0 : MetS W b1 wb pc root (.slice a n c) (pathB key) (fun b => b < W.heap.size ∨ b = b1 ∨ b = wb ∨ b = pc) W6 :=
    ⟨fun b => Iff.rfl, HX6.out.size, fun b hb => HX6.out.block b hb (fun h => h), hB3, hc6, hp6⟩
  refine wp_rangeT (N := vs.length) (gf := 122) (lb := #[.pointer (some ⟨b1, 0, none⟩), .pointer (some ⟨pc, 0, none⟩)]) rfl Tryz.enterMet1
    (met_it W b1 wb pc root (.slice a n c) nodes (pathB key) (path_valid key) (by rw [path_size]; have := HK.out; omega) hPS (by have := HZ.out; have := HZ2.out; omega) vs rest okf HVS.out)
    (MetS.supp W b1 wb pc root (.slice a n c) (pathB key)) (fun k => rfl) (ClC cb vs) (fun _ _ _ _ => False) (ClC.supp cb vs) (fun _ _ _ _ h => h)
    (fun b => b = cb) (fun b => b < W.heap.size ∨ b = b1 ∨ b = wb ∨ b = pc) ⟨fun b => Iff.rfl, hB4⟩ hS0
    (fun b hb ho => by have hb : b = cb := hb; have := HZ.out; have := HZ2.out; omega)
    (fun k a1 w1 => ∃ g, W6.heap.size + 1 < g ∧ a1 = prvAct W key root b1 wb pc cb a n c vs k g ∧ Blk w1 g (.cells (atV vs k).1.cells.toArray 60))
    (fun k a1 w1 w2 ⟨g, h1, h2, h3⟩ hk => ⟨g, h1, h2, h3.keeps hk (fun e => by have e : g = W6.heap.size + 1 := e; omega)⟩) ?hassign ?hbody ?hdone (MetE.supp wb root (.slice a n c) nodes rest okf)
  case hassign =>
    intro y k W9 K hk hz hK
    unfold meV
    rw [fold2]
    obtain ⟨d, hgd⟩ := vis_good W HVS.out (path_valid key) _ (atV_mem hk)
    have hln := (hgd.one (inlP d)).refs
    have HLC := Lib.hid ((atV vs k).1.cells_len hln)
    gi_wp2_with (first | (refine wpListIn_new Tryz.allocNode rfl rfl ?_; intro Wa hBa hEa) | (refine wpListIn_fill (vs := (atV vs k).1.cells) rfl rfl rfl rfl hBa (by rw [HLC.out]; rfl) (by rw [HLC.out]; exact Tryz.szNode) (atV vs k).1.one ?_; intro Wb hBb hEb))
    exact hK _ _ (hEa.trans' hEb (fun x hx e => by have e : x = W9.heap.size := e; omega)) ⟨W9.heap.size, hz, rfl, hBb⟩
  case hbody =>
    rintro y k D W9 a1 hk hcc ⟨g, hg, rfl, hB⟩ hkp
    obtain ⟨d, hgd⟩ := vis_good W HVS.out (path_valid key) _ (atV_mem hk)
    have hln := (hgd.one (inlP d)).refs
    have hk3 : (atV vs k).1.kind ≤ 3 := (hgd.one (inlP d)).kind
    have HCC := Lib.hid hcc
    have HLT := Lib.hid (last_take hk)
    have HCL := Lib.hid (fun w => claimed_c w (atV vs k).1 hln hk3 (atV vs k).2)
    have hcb := hcc.blk
    clear hcc hkp hgd hk
    unfold prvAct
    gi_wp2_with (refine wpListIn_load_known rfl 60 (.tmp 10) rfl _ _ rfl (run_load_api W9 g (atV vs k).1 hln hB) ?_)
    refine ⟨trivial, rfl, CallsIn.mono (CallsIn.inRound _ (callsIn_wide.2 (HCL.out W9))) ?_⟩
    rintro e w' ⟨rfl, hE⟩
    have hcb' := hcb.keeps hE (fun h => h)
    unfold clmV
    gi_wp2_with (refine wpListIn_fill (vs := clmL (claimN (atV vs k).1 (atV vs k).2)) rfl rfl rfl rfl hcb' (by rw [clm_len, clm_len]) (by rw [clm_len]; exact Tryz.szClaim) (clm_one _) ?_; intro Wb hBb hEb)
    refine ⟨D, (ExtK hE : Keeps D W9 w').trans (hEb.mono (fun b _ e => (HCC.out.is b).2 e)), fun b h => .inl h, ⟨HCC.out.is, ?_⟩⟩
    rw [HLT.out]; exact hBb
  case hdone =>
    intro D O W9 hkp hcc hse hdis hDn hOn hbd h1 h2
    obtain ⟨hO1, hO2, u, ev, hWy, hev⟩ := hse
    have hcb := hcc.blk
    rw [List.take_length] at hcb
    have HCB := Lib.hid hcb
    have HWY := Lib.hid hWy
    have HBD := Lib.hid hbd
    have HX6s := HX6.out.size
    clear HX6s
    have hB1 := HB1'.out.keeps hkp (fun e => by have := HZ.out; have := HZ2.out; rcases e with e | e | e <;> (try have e : W.heap.size = cb := e) <;> omega)
    have HB1 := Lib.hid hB1
    have HX9 := Lib.hid (show Ext W W9 from HX6.out.trans' hkp (fun b hb e => by have := HZ.out; have := HZ2.out; rcases e with e | e | e <;> (try have e : b = cb := e) <;> omega))
    have HNE := Lib.hid (show (¬ cb = W.heap.size) ∧ (¬ wb = W.heap.size) ∧ ¬ W6.heap.size = W.heap.size from by have := HZ.out; have := HZ2.out; have := HX6.out.size; omega)
    have hq1 : ∀ w, (binOp .eql 92 .nilIface .nilIface).run Tryz.prog w = .ok (.bool true) w := fun w => by kernel_rfl
    have HOO := Lib.hid (show ∀ b, O b → (¬ b = W.heap.size) ∧ ¬ b = W6.heap.size from fun b hb => ⟨fun e => by
      have := HZ.out; have := HZ2.out; have := HX6.out.size
      rcases hOn b hb with h | h
      · rcases h with h | h | h | h <;> omega
      · omega, fun e => h2 (e ▸ hb)⟩)
    have q3 := hWy.errc
    have q2 := Blk.cell (i := 2) (v := .int .i64 (u : Int)) hWy (by rfl)
    clear hcb hWy hB1 hkp hcc hdis hDn hOn hbd h1 h2 hO1 hO2 hS0 hPS hB3 hB4 hc6 hp6
    rcases hev with ⟨rfl, rfl, hu⟩ | ⟨rfl, eb, ek, hOe, rfl, hBe⟩
    case inr =>
      have hq2 : ∀ w, (binOp .eql 92 (.iface 139 (.pointer (some ⟨eb, 0, none⟩))) .nilIface).run Tryz.prog w = .ok (.bool false) w := fun w => by kernel_rfl
      have HBE := Lib.hid hBe
      have HEB := Lib.hid (HOO.out eb hOe)
      clear hBe hOe
      gi_wp2_with fail
      refine wpIn_wide.2 (wp_region_mixD [0,1,2,3,4] [3] Ext (Keeps (fun b => b = W.heap.size)) ExtR ExtT (fun x y z h k => Keeps.trans h k) (fun x y h => ExtK h) (by kernel_rfl) (by kernel_rfl) (by kernel_rfl) ?_)
      refine mixd_load ⟨cb, 0, none⟩ (clmV (lastCl vs)) rfl (by kernel_rfl) rfl rfl (fun w1 h1 => run_load_clm (Blk.keeps (by exact HCB.out) h1 HNE.out.1)) ?_
      simp only [Act.put, List.setIfInBounds_toArray, List.set_cons_zero, List.set_cons_succ]
      refine mixd_pure _ rfl (by kernel_rfl) rfl rfl (fun K hK => ?_); go_big_quiet_op; refine hK _ ?_; clear hK K
      refine mixd_load ⟨wb, 3, none⟩ (.iface 139 (.pointer (some ⟨eb, 0, none⟩))) rfl (by kernel_rfl) rfl rfl (fun w1 h1 => run_load_plain Tryz.underlying92 rfl (cell_keeps (by exact HWY.out.errc) h1 HNE.out.2.1)) ?_
      simp only [Act.put, List.setIfInBounds_toArray, List.set_cons_zero, List.set_cons_succ]
      refine mixd_hard _ rfl (by kernel_rfl) rfl (fun wa ha K hK => ?_)
      have h9a : Ext W9 wa := (drewE W9).trans ha
      refine wp_fill (old := clmL none) (vs := clmL (lastCl vs)) rfl rfl rfl (HB1.out.keeps h9a (fun h => h)) (by rw [clm_len, clm_len]) (by rw [clm_len]; exact Tryz.szClaim) (clm_one _) ?_
      intro wb' hBf hEf
      refine hK _ _ hEf ?_
      clear hK K
      simp only [Act.put, List.setIfInBounds_toArray, List.set_cons_zero, List.set_cons_succ]
      refine mixd_pure _ rfl (by kernel_rfl) rfl rfl (fun K hK => ?_); go_big_quiet_op; refine hK _ ?_; clear hK K
      refine mixd_end (by kernel_rfl) (fun wc hc => ?_)
      have k9c : Keeps (fun b => b = W.heap.size) W9 wc := ((ExtK h9a : Keeps (fun b => b = W.heap.size) W9 wa).trans hEf).trans (ExtK hc)
      have hBD := HBD.out.keeps k9c HNE.out.2.2
      have hB6 := (hBf.keeps hc (fun h => h)).put_other (show W.heap.size ≠ W6.heap.size from fun e => HNE.out.2.2 e.symm) (.deferred none)
      have hXc : Ext W wc := HX9.out.trans' k9c (fun b hb e => by have e : b = W.heap.size := e; omega)
      gi_wp2
      refine ⟨by simp, .inl ⟨_, _, rfl, run_takeDeferred hBD, ?_⟩⟩
      refine ⟨_, results_cell_tmp rfl rfl rfl (run_loadVar_clm hB6), hXc.trans' (Keeps.onePut wc W6.heap.size _) (fun b hb e => by have e : b = W6.heap.size := e; have := HX6.out.size; omega), _, rfl, ?_⟩
      exact .inr ⟨rfl, eb, ek, rfl, (HBE.out.keeps k9c HEB.out.1).put_other HEB.out.2 _⟩
    case inl =>
      cases rest with
      | nil =>
        have hun : ¬ (u : Int) < (n : Int) := by have := HNN.out; simp at hu; omega
        clear hu
        gi_wp2_with fail
        refine wpIn_wide.2 (wp_region_mixD [0,1,2,3,4] [3] Ext (Keeps (fun b => b = W.heap.size)) ExtR ExtT (fun x y z h k => Keeps.trans h k) (fun x y h => ExtK h) (by kernel_rfl) (by kernel_rfl) (by kernel_rfl) ?_)
        refine mixd_load ⟨cb, 0, none⟩ (clmV (lastCl vs)) rfl (by kernel_rfl) rfl rfl (fun w1 h1 => run_load_clm (Blk.keeps (by exact HCB.out) h1 HNE.out.1)) ?_
        simp only [Act.put, List.setIfInBounds_toArray, List.set_cons_zero, List.set_cons_succ]
        refine mixd_pure _ rfl (by kernel_rfl) rfl rfl (fun K hK => ?_); go_big_quiet_op; refine hK _ ?_; clear hK K
        refine mixd_load ⟨wb, 3, none⟩ (.nilIface) rfl (by kernel_rfl) rfl rfl (fun w1 h1 => run_load_plain Tryz.underlying92 rfl (cell_keeps (by exact HWY.out.errc) h1 HNE.out.2.1)) ?_
        simp only [Act.put, List.setIfInBounds_toArray, List.set_cons_zero, List.set_cons_succ]
        refine mixd_hard _ rfl (by kernel_rfl) rfl (fun wa ha K hK => ?_)
        have h9a : Ext W9 wa := (drewE W9).trans ha
        refine wp_fill (old := clmL none) (vs := clmL (lastCl vs)) rfl rfl rfl (HB1.out.keeps h9a (fun h => h)) (by rw [clm_len, clm_len]) (by rw [clm_len]; exact Tryz.szClaim) (clm_one _) ?_
        intro wb' hBf hEf
        refine hK _ _ hEf ?_
        clear hK K
        simp only [Act.put, List.setIfInBounds_toArray, List.set_cons_zero, List.set_cons_succ]
        refine mixd_pure _ rfl (by kernel_rfl) rfl rfl (fun K hK => ?_); go_big_quiet_op; refine hK _ ?_; clear hK K
        refine mixd_end (by kernel_rfl) (fun wc hc => ?_)
        have k9c : Keeps (fun b => b = W.heap.size) W9 wc := ((ExtK h9a : Keeps (fun b => b = W.heap.size) W9 wa).trans hEf).trans (ExtK hc)
        have hBD := HBD.out.keeps k9c HNE.out.2.2
        have hB6 := (hBf.keeps hc (fun h => h)).put_other (show W.heap.size ≠ W6.heap.size from fun e => HNE.out.2.2 e.symm) (.deferred none)
        have hXc : Ext W wc := HX9.out.trans' k9c (fun b hb e => by have e : b = W.heap.size := e; omega)
        gi_wp2
        refine ⟨by simp, .inl ⟨_, _, rfl, run_takeDeferred hBD, ?_⟩⟩
        refine ⟨_, results_cell_tmp rfl rfl rfl (run_loadVar_clm hB6), hXc.trans' (Keeps.onePut wc W6.heap.size _) (fun b hb e => by have e : b = W6.heap.size := e; have := HX6.out.size; omega), _, rfl, ?_⟩
        exact .inl ⟨rfl, rfl⟩
      | cons x xs =>
        have hun : (u : Int) < (n : Int) := by have := HNN.out; simp at hu; omega
        clear hu
        gi_wp2_with fail
        refine ⟨trivial, rfl, CallsIn.mono (callsIn_wide.2 (fail_c W9 wb root (.slice a n c) u .nilIface HWY.out)) ?_⟩
        rintro e w10 ⟨rfl, ev', ⟨eb, ek, rfl, hBe, hez⟩, hWA, hK10⟩
        have HWY2 := Lib.hid hWA
        have HBE := Lib.hid hBe
        have HEB := Lib.hid (show (¬ eb = W.heap.size) ∧ ¬ eb = W6.heap.size from by have := HBD.out.lt; have := HX9.out.size; have := HX6.out.size; have := HZ.out; have := HZ2.out; omega)
        have HB12 := Lib.hid (HB1.out.keeps hK10 (fun e => HNE.out.2.1 e.symm))
        have HCB2 := Lib.hid (HCB.out.keeps hK10 (fun e => by have e : cb = wb := e; have := HZ.out; omega))
        have HBD2 := Lib.hid (HBD.out.keeps hK10 (fun e => by have e : W6.heap.size = wb := e; have := HZ.out; have := HZ2.out; omega))
        have HX10 := Lib.hid (show Ext W w10 from HX9.out.trans' hK10 (fun b hb e => by have e : b = wb := e; have := HZ.out; omega))
        clear hBe hez hWA hK10
        gi_wp2_with fail
        refine wpIn_wide.2 (wp_region_mixD [0,1,2,3,4] [3] Ext (Keeps (fun b => b = W.heap.size)) ExtR ExtT (fun x y z h k => Keeps.trans h k) (fun x y h => ExtK h) (by kernel_rfl) (by kernel_rfl) (by kernel_rfl) ?_)
        refine mixd_load ⟨cb, 0, none⟩ (clmV (lastCl vs)) rfl (by kernel_rfl) rfl rfl (fun w1 h1 => run_load_clm (Blk.keeps (by exact HCB2.out) h1 HNE.out.1)) ?_
        simp only [Act.put, List.setIfInBounds_toArray, List.set_cons_zero, List.set_cons_succ]
        refine mixd_pure _ rfl (by kernel_rfl) rfl rfl (fun K hK => ?_); go_big_quiet_op; refine hK _ ?_; clear hK K
        refine mixd_load ⟨wb, 3, none⟩ (.iface 139 (.pointer (some ⟨eb, 0, none⟩))) rfl (by kernel_rfl) rfl rfl (fun w1 h1 => run_load_plain Tryz.underlying92 rfl (cell_keeps (by exact HWY2.out.errc) h1 HNE.out.2.1)) ?_
        simp only [Act.put, List.setIfInBounds_toArray, List.set_cons_zero, List.set_cons_succ]
        refine mixd_hard _ rfl (by kernel_rfl) rfl (fun wa ha K hK => ?_)
        have h9a : Ext w10 wa := (drewE w10).trans ha
        refine wp_fill (old := clmL none) (vs := clmL (lastCl vs)) rfl rfl rfl (HB12.out.keeps h9a (fun h => h)) (by rw [clm_len, clm_len]) (by rw [clm_len]; exact Tryz.szClaim) (clm_one _) ?_
        intro wb' hBf hEf
        refine hK _ _ hEf ?_
        clear hK K
        simp only [Act.put, List.setIfInBounds_toArray, List.set_cons_zero, List.set_cons_succ]
        refine mixd_pure _ rfl (by kernel_rfl) rfl rfl (fun K hK => ?_); go_big_quiet_op; refine hK _ ?_; clear hK K
        refine mixd_end (by kernel_rfl) (fun wc hc => ?_)
        have k9c : Keeps (fun b => b = W.heap.size) w10 wc := ((ExtK h9a : Keeps (fun b => b = W.heap.size) w10 wa).trans hEf).trans (ExtK hc)
        have hBD := HBD2.out.keeps k9c HNE.out.2.2
        have hB6 := (hBf.keeps hc (fun h => h)).put_other (show W.heap.size ≠ W6.heap.size from fun e => HNE.out.2.2 e.symm) (.deferred none)
        have hXc : Ext W wc := HX10.out.trans' k9c (fun b hb e => by have e : b = W.heap.size := e; omega)
        gi_wp2
        refine ⟨by simp, .inl ⟨_, _, rfl, run_takeDeferred hBD, ?_⟩⟩
        refine ⟨_, results_cell_tmp rfl rfl rfl (run_loadVar_clm hB6), hXc.trans' (Keeps.onePut wc W6.heap.size _) (fun b hb e => by have e : b = W6.heap.size := e; have := HX6.out.size; omega), _, rfl, ?_⟩
        exact .inr ⟨rfl, eb, ek, rfl, (HBE.out.keeps k9c HEB.out.1).put_other HEB.out.2 _⟩
end
end Go.Proofs.YtllbcjclibbogaaGreatDoor
/- Pairs of texts: whether they are alike. -/
namespace Go.Proofs.YtllbcjclibbogaaGreatDoor
section
open Go Go.RowKit
set_option linter.unusedSimpArgs false
set_option linter.unusedVariables false
theorem eqStr (d : Nat) (a b : ByteArray) (w : World) : (Op.equalIn (d + 1) 9 (.string a) (.string b)).run Tryz.prog w = .ok (a == b) w := by
  simp [Op.equalIn, Sem.run_bind, run_underlying Tryz.uStr, Result.andThen, Sem.run_pure]
def fieldsB (d : Option TypeDesc) (l : List (Bool × TypeId × Nat)) : Bool := match d with | some (.struct fs) => fs.toList.map (fun f => (f.name == "_", f.type, f.offset)) == l | _ => false
end
end Go.Proofs.YtllbcjclibbogaaGreatDoor
/- canon: Top. -/
namespace Go.Proofs.YtllbcjclibbogaaGreatDoor
section
open Go Go.RowKit
set_option linter.unusedSimpArgs false
set_option linter.unusedVariables false
set_option maxRecDepth 100000 in
set_option maxHeartbeats 4000000 in
theorem top_ok (w : World) (v : Value) (l : List Pair) (hc : Cubes w) (hv : RdP w v l) (h : checkN l = 0) : Calls Tryz.prog 8 #[v] w fun e w' => e = .returned (.tuple #[.string (trieT l).text, .int .i64 0]) ∧ Ext w w' := by
  have hm := check_ok h
  obtain ⟨a, c, hsl⟩ := hv.sl
  subst hsl
  have HV := Lib.hid hv
  have HM := Lib.hid hm
  have HC := Lib.hid hc
  have H := Lib.hid h
  have HL := Lib.hid hm.len
  clear hv hm hc h
  go_enter Tryz.func8, Tryz.ntmps8
  go_wp2_with fail
  refine (check_c w _ l HV.out (by have := HL.out; omega) (fun p hp => by have := HM.out.size p hp; omega)).mono ?_
  rintro e w1 ⟨rfl, hE⟩
  rw [H.out]
  have HE := Lib.hid hE
  clear hE
  go_wp2_with fail
  refine (rows_c w1 _ l (HV.out.ext HE.out) (by have := HL.out; omega) (fun p hp => by have := HM.out.size p hp; omega)).mono ?_
  rintro e w2 ⟨u, rfl, hr⟩
  have HR := Lib.hid hr.rd
  have HX := Lib.hid (HE.out.trans hr.ext)
  clear hr
  obtain ⟨a2, c2, hu⟩ := HR.out.sl
  subst hu
  go_wp2_with fail
  refine (build_c 12 (rowsL l) (rows_ok HM.out) (by unfold rowsL; rw [List.length_map]; have := HL.out; omega) w2 _ (HC.out.ext HX.out) HR.out).mono ?_
  rintro e w3 ⟨k, rfl, hk, hE⟩
  obtain ⟨hkA, vk, bk, hkB, _⟩ := hk.open
  have q0 : w3.cell? ⟨k, 0, none⟩ = some (.string (buildT 13 (rowsL l)).text) := hkB.cell (by rfl)
  have HE3 := Lib.hid (HX.out.trans hE)
  clear hk hkB hE
  unfold ptrV
  go_wp2_with fail
  go_ret2
  exact ⟨rfl, HE3.out⟩
set_option maxRecDepth 100000 in
set_option maxHeartbeats 4000000 in
theorem top_bad (w : World) (v : Value) (l : List Pair) (hv : RdP w v l) (hn : l.length ≤ 9223372036854775807) (hs : ∀ p ∈ l, p.1.size ≤ 9223372036854775807 ∧ p.2.size ≤ 9223372036854775807) (h : checkN l ≠ 0) : Calls Tryz.prog 8 #[v] w fun e w' => e = .returned (.tuple #[.string ⟨#[]⟩, .int .i64 (checkN l)]) ∧ Ext w w' := by
  obtain ⟨a, c, hsl⟩ := hv.sl
  subst hsl
  have hck := check_c w _ l hv hn hs
  obtain ⟨x, hx⟩ : ∃ x, x = checkN l := ⟨_, rfl⟩
  rw [← hx] at h hck ⊢
  have hne : (x == 0) = false := by simpa using h
  have HCK := Lib.hid hck
  clear hv hs hx hck
  go_enter Tryz.func8, Tryz.ntmps8
  go_wp2_with fail
  refine HCK.out.mono ?_
  rintro e w1 ⟨rfl, hE⟩
  have HE := Lib.hid hE
  clear hE
  go_wp2_with fail
  go_ret2
  exact ⟨rfl, HE.out⟩
end
end Go.Proofs.YtllbcjclibbogaaGreatDoor
/- canon: Root, Find. -/
namespace Go.Proofs.YtllbcjclibbogaaGreatDoor
section
open Go Go.RowKit
set_option linter.unusedSimpArgs false
set_option linter.unusedVariables false
set_option maxRecDepth 100000 in
set_option maxHeartbeats 4000000 in
theorem root_ok (w : World) (v : Value) (l : List Pair) (hc : Cubes w) (hv : RdP w v l) (h : checkN l = 0) : Calls Tryz.prog 9 #[v] w fun e w' => e = .returned (.tuple #[.string (shaB (trieT l).text), .int .i64 0]) ∧ Ext w w' := by
  have hT := top_ok w v l hc hv h
  obtain ⟨a, c, hsl⟩ := hv.sl
  subst hsl
  obtain ⟨t, ht⟩ : ∃ t, t = (trieT l).text := ⟨_, rfl⟩
  rw [← ht] at hT ⊢
  have HT := Lib.hid hT
  have HC := Lib.hid hc
  clear hT hc hv ht h
  go_enter Tryz.func9, Tryz.ntmps9
  go_wp2_with fail
  refine HT.out.mono ?_
  rintro e w1 ⟨rfl, hE⟩
  have HE := Lib.hid hE
  clear hE
  go_wp2_with fail
  refine (of_t _ _ [t] (by simp) (rds_lit w1 [t] 9) (HC.out.ext (HE.out.alloc _))).mono ?_
  rintro e w2 ⟨rfl, hE⟩
  rw [catB_one]
  have HE2 := Lib.hid ((HE.out.alloc _).trans hE)
  clear hE
  go_wp2_with fail
  go_ret2
  exact ⟨rfl, HE2.out⟩
set_option maxRecDepth 100000 in
set_option maxHeartbeats 4000000 in
theorem root_bad (w : World) (v : Value) (l : List Pair) (hv : RdP w v l) (hn : l.length ≤ 9223372036854775807) (hs : ∀ p ∈ l, p.1.size ≤ 9223372036854775807 ∧ p.2.size ≤ 9223372036854775807) (h : checkN l ≠ 0) : Calls Tryz.prog 9 #[v] w fun e w' => e = .returned (.tuple #[.string ⟨#[]⟩, .int .i64 (checkN l)]) ∧ Ext w w' := by
  have hT := top_bad w v l hv hn hs h
  obtain ⟨a, c, hsl⟩ := hv.sl
  subst hsl
  obtain ⟨x, hx⟩ : ∃ x, x = checkN l := ⟨_, rfl⟩
  rw [← hx] at h hT ⊢
  have hne : (x == 0) = false := by simpa using h
  have HT := Lib.hid hT
  clear hT hv hx
  go_enter Tryz.func9, Tryz.ntmps9
  go_wp2_with fail
  refine HT.out.mono ?_
  rintro e w1 ⟨rfl, hE⟩
  have HE := Lib.hid hE
  clear hE
  go_wp2_with fail
  go_ret2
  exact ⟨rfl, HE.out⟩
/-! Find. -/
set_option maxRecDepth 100000 in
theorem find1_c (w : World) (x y k : ByteArray) (gk : Nat) (hk : w.cell? ⟨gk, 0, none⟩ = some (.string k)) : Calls Tryz.prog 52 #[.agg #[.string x, .string y], .pointer (some ⟨gk, 0, none⟩)] w fun e w' => e = .returned (.bool (x.toList == k.toList)) ∧ Ext w w' := by
  have hk' := cell_ext hk ((ExtR w).alloc (.cells #[.string x, .string y] 51))
  clear hk
  go_enter Tryz.func52, Tryz.ntmps52
  go_wp2_with fail
  go_ret
  exact ⟨rfl, (ExtR w).alloc _⟩
/-- Where the first entry of a key is. -/
def keyAt (k : ByteArray) (l : List Pair) : Option Nat := l.findIdx? fun p => p.1.toList == k.toList
def idxV : Option Nat → Int | some i => i | none => -1
def IdxRel (w : World) (k : ByteArray) (l : List Pair) (v : Value) (wr : World) : Prop := ∃ i : Nat, i ≤ l.length ∧ v = .int .i64 i ∧ Ext w wr ∧ ∀ p ∈ l.take i, (p.1.toList == k.toList) = false
set_option maxRecDepth 100000 in
set_option maxHeartbeats 4000000 in
theorem indexFunc_c (w : World) (v : Value) (l : List Pair) (k : ByteArray) (gk : Nat) (hv : RdP w v l) (hn : l.length ≤ 1000000) (hk : w.cell? ⟨gk, 0, none⟩ = some (.string k)) : Calls Tryz.prog 51 #[v, .func (.func 52) #[] #[.pointer (some ⟨gk, 0, none⟩)]] w fun e w' => e = .returned (.int .i64 (idxV (keyAt k l))) ∧ Ext w w' := by
  obtain ⟨a, c, hsl⟩ := hv.sl
  have HV := Lib.hid hv
  have HK := Lib.hid hk
  subst hsl
  clear hv hk
  go_enter Tryz.func51, Tryz.ntmps51
  go_wp2_with fail
  go_loopw [8] (fun i wr => IdxRel w k l i wr) (fun i _ => l.length - (intOf i).toNat)
  case atStart => exact ⟨0, by omega, rfl, ExtR w, fun p hp => by simp at hp⟩
  case round =>
    obtain ⟨i, hi, rfl, hE, hall⟩ := hrel
    have HE := Lib.hid hE
    have HALL := Lib.hid hall
    clear hE hall
    by_cases hlt : i < l.length
    · rcases HV.out with ⟨_, _, _, h0⟩ | ⟨b, o, c', hh, hb, hc, hcell⟩
      · rw [h0] at hlt; cases hlt
      cases hh
      obtain ⟨p, hp⟩ : ∃ p, l[i]? = some p := ⟨_, List.getElem?_eq_getElem hlt⟩
      obtain ⟨q1, q2⟩ := hcell i p hp
      have q1 := cell_ext q1 HE.out
      have q2 := cell_ext q2 HE.out
      obtain ⟨x, y⟩ := p
      simp only at q1 q2
      have b1 : (i : Int) < (l.length : Int) := by omega
      have HP := Lib.hid hp
      clear hcell hp
      go_wp2_with fail
      refine (find1_c wr x y k gk (cell_ext HK.out HE.out)).mono ?_
      rintro e w3 ⟨rfl, hE⟩
      have HE3 := Lib.hid (HE.out.trans hE)
      clear hE q1 q2
      cases hq : (x.toList == k.toList) with
      | true =>
        have HQ := Lib.hid hq
        clear hq
        go_wp2_with fail
        go_ret
        refine ⟨?_, HE3.out⟩
        have hka : keyAt k l = some i := by
          unfold keyAt
          rw [List.findIdx?_eq_some_iff_getElem]
          refine ⟨hlt, ?_, fun j hj => ?_⟩
          · rw [(List.getElem?_eq_some_iff.1 HP.out).2]; exact HQ.out
          · have := HALL.out l[j] (List.mem_take_iff_getElem.2 ⟨j, by omega, rfl⟩)
            rw [this]; simp
        rw [hka]; rfl
      | false =>
        have HQ := Lib.hid hq
        clear hq
        go_wp2_with fail
        go_roundw
        case rel =>
          refine ⟨i + 1, by omega, by go_num, HE3.out, fun p hp => ?_⟩
          rw [List.take_add_one, HP.out] at hp
          rcases List.mem_append.1 hp with hp | hp
          · exact HALL.out p hp
          · simp at hp; subst hp; exact HQ.out
        case measure => simp [intOf]; omega
    · have hil : i = l.length := by omega
      subst hil
      have hka : keyAt k l = none := by
        unfold keyAt
        rw [List.findIdx?_eq_none_iff]
        exact fun p hp => HALL.out p (by rw [List.take_length]; exact hp)
      have HKA := Lib.hid hka
      clear hka
      go_wp2
      go_ret
      exact ⟨by rw [HKA.out]; rfl, HE.out⟩
/-- A key's value. -/
def findB (l : List Pair) (k : ByteArray) : Option ByteArray := (keyAt k l).map fun i => (l.getD i pd).2
set_option maxRecDepth 100000 in
set_option maxHeartbeats 4000000 in
theorem find_c (w : World) (v : Value) (l : List Pair) (k : ByteArray) (hv : RdP w v l) (hn : l.length ≤ 1000000) : Calls Tryz.prog 22 #[v, .string k] w fun e w' => e = .returned (optV (findB l k)) ∧ Ext w w' := by
  obtain ⟨a, c, hsl⟩ := hv.sl
  have HV := Lib.hid hv
  subst hsl
  clear hv
  obtain ⟨r, hr⟩ : ∃ r, r = optV (findB l k) := ⟨_, rfl⟩
  rw [← hr]
  have HR := Lib.hid hr
  clear hr
  go_enter Tryz.func22, Tryz.ntmps22
  go_wp2_with fail
  refine (indexFunc_c _ _ l k w.heap.size (HV.out.ext ((ExtR w).alloc _)) hn ((Blk.new w _).cell (by rfl))).mono ?_
  rintro e w1 ⟨rfl, hE⟩
  have HE := Lib.hid (((ExtR w).alloc _).trans hE)
  clear hE
  cases hka : keyAt k l with
  | none =>
    have HRV := Lib.hid (show r = optV none by rw [HR.out]; unfold findB; rw [hka]; rfl)
    clear hka
    unfold idxV
    go_wp2_with fail
    go_ret2
    exact ⟨by rw [HRV.out]; rfl, HE.out⟩
  | some i =>
    have hil : i < l.length := by
      unfold keyAt at hka
      exact (List.findIdx?_eq_some_iff_getElem.1 hka).1
    rcases HV.out with ⟨_, _, _, h0⟩ | ⟨b, o, c', hh, hb, hc, hcell⟩
    · rw [h0] at hil; cases hil
    cases hh
    obtain ⟨p, hp⟩ : ∃ p, l[i]? = some p := ⟨_, List.getElem?_eq_getElem hil⟩
    have q2 := cell_ext (hcell i p hp).2 HE.out
    have HRV := Lib.hid (show r = optV (some p.2) by
      rw [HR.out]; unfold findB; rw [hka]
      show optV (some (l.getD i pd).2) = _
      rw [List.getD_eq_getElem?_getD, hp]; rfl)
    have b1 : (i : Int) < (l.length : Int) := by omega
    clear hka hcell hp
    unfold idxV
    go_wp2_with fail
    go_ret2
    exact ⟨by rw [HRV.out]; rfl, HE.out⟩
end
end Go.Proofs.YtllbcjclibbogaaGreatDoor
/- proof: Verify, Holds. -/
namespace Go.Proofs.YtllbcjclibbogaaGreatDoor
section
open Go Go.RowKit
set_option linter.unusedSimpArgs false
set_option linter.unusedVariables false
attribute [local go_sem] Oper.semAt_some
theorem prove_c (W : World) (hc : Cubes W) (root key : ByteArray) (hk : key.size ≤ 1000) (v : Value) (nodes : List ByteArray) (hv : RdS W v nodes) (hG : GetAll W nodes) :
    Calls Tryz.prog 49 #[.string root, .string key, v] W (ProveP W (proveR root key nodes)) := by
  unfold proveR
  by_cases hn : 40 < nodes.length
  · rw [if_pos hn]
    obtain ⟨a, c, rfl⟩ := rds_sl hv
    exact prove_long W root key a nodes.length c hn
  · rw [if_neg hn]
    obtain ⟨⟨vs, rest, okf⟩, hvs⟩ : ∃ x, proveN root (pathB key) nodes = x := ⟨_, rfl⟩
    rw [hvs]
    exact prove_short W hc root key hk v nodes hv (by omega) hG vs rest okf hvs
def verV (r : Option ByteArray × Bool) : Value := if r.2 = true then .tuple #[clmV r.1, .int .i64 0] else .tuple #[clmV none, .int .i64 10]
set_option maxRecDepth 100000 in
set_option maxHeartbeats 4000000 in
theorem verify_c (W : World) (hc : Cubes W) (root key : ByteArray) (hk : key.size ≤ 1000) (v : Value) (nodes : List ByteArray) (hv : RdS W v nodes) (hG : GetAll W nodes) :
    Calls Tryz.prog 21 #[.string root, .string key, v] W fun e w' => e = .returned (verV (proveR root key nodes)) ∧ Ext W w' := by
  obtain ⟨a, c, hsl⟩ := rds_sl hv
  have HP := Lib.hid (fun w (h : Ext W w) => prove_c w (hc.ext h) root key hk v nodes (hv.ext h) (hG.ext h))
  obtain ⟨⟨o, b⟩, hr⟩ : ∃ r, r = proveR root key nodes := ⟨_, rfl⟩
  rw [← hr] at HP ⊢
  clear hc hk hv hG hr
  subst hsl
  unfold verV
  go_enter Tryz.func21, Tryz.ntmps21
  go_wp2_with (refine wpList_new Tryz.allocClaim rfl rfl ?_; intro W1 hB1 hE1)
  refine (HP.out W1 hE1).mono ?_
  rintro e w2 ⟨hE, ev, rfl, hcase⟩
  have HB2 := Lib.hid (hB1.keeps hE (fun h => h))
  have HE2 := Lib.hid (hE1.trans hE)
  clear hB1 hE1 hE
  unfold clmV
  rcases hcase with ⟨hb, rfl⟩ | ⟨hb, bb, kk, rfl, hBb⟩
  · have hb : b = true := hb
    subst hb
    go_wp2_with (first | (refine wpList_new Tryz.allocClaim rfl rfl ?_; intro W3 hB3 hE3) | (refine wpList_fill (old := clmL none) (vs := clmL o) rfl rfl rfl rfl hB3 ((clm_len none).trans (clm_len o).symm) (by rw [clm_len]; exact Tryz.szClaim) (clm_one _) ?_; intro W4 hB4 hE4))
    have hX4 : Ext w2 W4 := hE3.trans' hE4 (fun x hx e => by have e : x = w2.heap.size := e; omega)
    have HX4 := Lib.hid (HE2.out.trans hX4)
    have HB24 := Lib.hid (HB2.out.keeps hX4 (fun h => h))
    have HB4 := Lib.hid hB4
    clear hB3 hE3 hB4 hE4 hX4
    refine (show Calls Tryz.prog 50 #[.nilIface, .iface 25 (.int .i64 10)] W4 fun e w' => e = .returned (.bool false) ∧ W4 = w' from is_nilW W4).mono ?_
    rintro e w5 ⟨rfl, rfl⟩
    have hB24 := HB24.out
    go_wp2_with (first | (refine wpList_load_known 46 (.tmp 8) rfl rfl _ _ rfl (run_load_clm HB4.out) ?_) | (refine wpList_fill (old := clmL none) (vs := clmL o) rfl rfl rfl rfl hB24 ((clm_len none).trans (clm_len o).symm) (by rw [clm_len]; exact Tryz.szClaim) (clm_one _) ?_; intro W8 hB8 hE8))
    refine bodyPost_ret (results_cell_tmp rfl rfl rfl (run_loadVar_clm hB8)) rfl ?_
    exact ⟨rfl, HX4.out.trans' hE8 (fun x hx e => by have e : x = W.heap.size := e; omega)⟩
  · have hb : b = false := hb
    subst hb
    have HBB := Lib.hid hBb
    clear hBb
    go_wp2_with (first | (refine wpList_new Tryz.allocClaim rfl rfl ?_; intro W3 hB3 hE3) | (refine wpList_fill (old := clmL none) (vs := clmL o) rfl rfl rfl rfl hB3 ((clm_len none).trans (clm_len o).symm) (by rw [clm_len]; exact Tryz.szClaim) (clm_one _) ?_; intro W4 hB4 hE4))
    have hX4 : Ext w2 W4 := hE3.trans' hE4 (fun x hx e => by have e : x = w2.heap.size := e; omega)
    have HX4 := Lib.hid (HE2.out.trans hX4)
    have HB24 := Lib.hid (HB2.out.keeps hX4 (fun h => h))
    have HBB4 := Lib.hid (HBB.out.keeps hX4 (fun h => h))
    clear hB3 hE3 hB4 hE4 hX4
    refine (show Calls Tryz.prog 50 #[.iface 139 (.pointer (some ⟨bb, 0, none⟩)), .iface 25 (.int .i64 10)] W4 fun e w' => e = .returned (.bool true) ∧ W4 = w' from is_wrong W4 bb kk HBB4.out).mono ?_
    rintro e w5 ⟨rfl, rfl⟩
    have hB24 := HB24.out
    go_wp2_with (refine wpList_fill (old := clmL none) (vs := clmL none) rfl rfl rfl rfl hB24 (by rw [clm_len]) (by rw [clm_len]; exact Tryz.szClaim) (clm_one _) ?_; intro W8 hB8 hE8)
    refine bodyPost_ret (results_cell_tmp rfl rfl rfl (run_loadVar_clm hB8)) rfl ?_
    exact ⟨rfl, HX4.out.trans' hE8 (fun x hx e => by have e : x = W.heap.size := e; omega)⟩
theorem eqBool (d : Nat) (a b : Bool) (w : World) : (Op.equalIn (d + 1) 4 (.bool a) (.bool b)).run Tryz.prog w = .ok (a == b) w := by
  simp [Op.equalIn, Sem.run_bind, run_underlying Tryz.underlying4, Result.andThen, Sem.run_pure]
theorem fieldsC {d : Option TypeDesc} (h : fieldsB d [(false, 4, 0), (false, 9, 1)] = true) : ∃ f g : Field, d = some (.struct #[f, g]) ∧ f.name ≠ "_" ∧ f.type = 4 ∧ f.offset = 0 ∧ g.name ≠ "_" ∧ g.type = 9 ∧ g.offset = 1 := by
  cases d with
  | none => cases h
  | some d =>
    cases d <;> try (cases h; done)
    rename_i fs
    obtain ⟨l⟩ := fs
    rcases l with _ | ⟨f, _ | ⟨g, _ | ⟨e, r⟩⟩⟩ <;> simp [fieldsB] at h
    obtain ⟨⟨h1, h2, h3⟩, h4, h5, h6⟩ := h
    exact ⟨f, g, rfl, h1, h2, h3, h4, h5, h6⟩
theorem Tryz.clmFields : fieldsB (Tryz.prog.underlying 46) [(false, 4, 0), (false, 9, 1)] = true := by kernel_rfl
theorem Tryz.clmHeld : Tryz.prog.stoodInHeld 46 = false := by kernel_rfl
theorem Tryz.boolAgg (w : World) : (isAgg 4).run Tryz.prog w = .ok false w := by kernel_rfl
set_option maxRecDepth 100000 in
theorem eql_clm (a b : Bool) (y y' : ByteArray) (w : World) : (binOp .eql 46 (.agg #[.bool a, .string y]) (.agg #[.bool b, .string y'])).run Tryz.prog w = .ok (.bool (a == b && y == y')) w := by
  obtain ⟨f, g, h0, h1, h2, h3, h4, h5, h6⟩ := fieldsC Tryz.clmFields
  have hp1 : ∀ (u v : Value) w, (part 4 #[u, v] 0).run Tryz.prog w = .ok u w := fun u v w => by
    simp [part, Sem.run_bind, Tryz.boolAgg, Result.andThen, Sem.run_pure]
  have hp2 : ∀ (u v : Value) w, (part 9 #[u, v] 1).run Tryz.prog w = .ok v w := fun u v w => by
    simp [part, Sem.run_bind, Tryz.strAgg, Result.andThen, Sem.run_pure]
  have he : ∀ d, (Op.equalIn (d + 2) 46 (.agg #[.bool a, .string y]) (.agg #[.bool b, .string y'])).run Tryz.prog w = .ok (a == b && y == y') w := fun d => by
    rw [Op.equalIn]
    simp only [Sem.run_bind, run_underlying h0, Result.andThen]
    simp [Sem.run_bind, Result.andThen, Sem.run, Tryz.clmHeld, h1, h2, h3, h4, h5, h6, hp1, hp2, eqStr, eqBool]
    by_cases hab : a = b
    · subst hab
      by_cases hy : y = y'
      · subst hy
        simp [Sem.run_bind, Result.andThen, Sem.run, Tryz.clmHeld, h1, h2, h3, h4, h5, h6, hp1, hp2, eqStr, eqBool, Sem.run_pure, ba_beq]
      · simp [Sem.run_bind, Result.andThen, Sem.run, Tryz.clmHeld, h1, h2, h3, h4, h5, h6, hp1, hp2, eqStr, eqBool, Sem.run_pure, ba_beq, hy]
    · simp [hab, Sem.run_pure, Sem.run]
  have he' : (Op.equal 46 (.agg #[.bool a, .string y]) (.agg #[.bool b, .string y'])).run Tryz.prog w = .ok (a == b && y == y') w := he 9998
  simp only [binOp, Sem.run_bind, he', Result.andThen, Sem.run_pure]
theorem eql_clmV (o p : Option ByteArray) (w : World) : (binOp .eql 46 (clmV o) (clmV p)).run Tryz.prog w = .ok (.bool (decide (o = p))) w := by
  cases o with
  | none =>
    cases p with
    | none => exact eql_clm false false ⟨#[]⟩ ⟨#[]⟩ w
    | some x => exact eql_clm false true ⟨#[]⟩ x w
  | some x =>
    cases p with
    | none => exact eql_clm true false x ⟨#[]⟩ w
    | some y =>
      refine (eql_clm true true x y w).trans ?_
      congr 2
      by_cases h : x = y
      · subst h; simp [ba_beq]
      · simp [h, ba_beq]
set_option maxRecDepth 100000 in
set_option maxHeartbeats 4000000 in
theorem holds_c (W : World) (v : Value) (l : List Pair) (key : ByteArray) (o : Option ByteArray) (hv : RdP W v l) (hn : l.length ≤ 1000000) :
    Calls Tryz.prog 41 #[v, .string key, clmV o] W fun e w' => e = .returned (.bool (decide (o = findB l key))) ∧ Ext W w' := by
  obtain ⟨a, c, hsl⟩ := hv.sl
  have HF := Lib.hid (fun w (h : Ext W w) => find_c w v l key (hv.ext h) hn)
  obtain ⟨f, hf⟩ : ∃ f, f = findB l key := ⟨_, rfl⟩
  rw [← hf] at HF ⊢
  clear hv hn hf
  subst hsl
  have hE0 : Ext W (W.alloc (.cells (clmL o).toArray 46)) := (ExtR W).alloc _
  have hB0 := Blk.new W (.cells (clmL o).toArray 46)
  have HE0 := Lib.hid hE0
  have HB0 := Lib.hid hB0
  clear hE0 hB0
  have key2 : ∀ (P : Value → Prop), P (clmV o) → P (clmV o) := fun _ h => h
  cases o with
  | none =>
    unfold clmL at HE0 HB0
    unfold clmV clmL
    go_enter Tryz.func41, Tryz.ntmps41
    go_wp2_with fail
    refine (HF.out _ HE0.out).mono ?_
    rintro e w2 ⟨rfl, hE⟩
    have HB2 := Lib.hid (HB0.out.keeps hE (fun h => h))
    have HE2 := Lib.hid (HE0.out.trans hE)
    clear hE
    have q0 := HB2.out.cell (i := 0) (v := .bool false) (by rfl)
    have q1 := HB2.out.cell (i := 1) (v := .string ⟨#[]⟩) (by rfl)
    cases f with
    | none =>
      unfold optV
      have hq := eql_clmV none none
      unfold clmV clmL at hq
      go_wp2_with fail
      go_ret
      exact ⟨rfl, HE2.out⟩
    | some x =>
      unfold optV
      have hq := eql_clmV none (some x)
      unfold clmV clmL at hq
      go_wp2_with fail
      go_ret
      exact ⟨rfl, HE2.out⟩
  | some u =>
    unfold clmL at HE0 HB0
    unfold clmV clmL
    go_enter Tryz.func41, Tryz.ntmps41
    go_wp2_with fail
    refine (HF.out _ HE0.out).mono ?_
    rintro e w2 ⟨rfl, hE⟩
    have HB2 := Lib.hid (HB0.out.keeps hE (fun h => h))
    have HE2 := Lib.hid (HE0.out.trans hE)
    clear hE
    have q0 := HB2.out.cell (i := 0) (v := .bool true) (by rfl)
    have q1 := HB2.out.cell (i := 1) (v := .string u) (by rfl)
    cases f with
    | none =>
      unfold optV
      have hq := eql_clmV (some u) none
      unfold clmV clmL at hq
      go_wp2_with fail
      go_ret
      exact ⟨rfl, HE2.out⟩
    | some x =>
      unfold optV
      have hq := eql_clmV (some u) (some x)
      unfold clmV clmL at hq
      go_wp2_with fail
      go_ret
      exact ⟨by rw [show decide (some u = some x) = decide (u = x) from by simp]; rfl, HE2.out⟩
end
end Go.Proofs.YtllbcjclibbogaaGreatDoor
/- sha: Collide. -/
namespace Go.Proofs.YtllbcjclibbogaaGreatDoor
section
open Go Go.RowKit
set_option linter.unusedSimpArgs false
set_option linter.unusedVariables false
set_option maxRecDepth 100000 in
set_option maxHeartbeats 2000000 in
theorem collide_t (w : World) (a b : ByteArray) (hc : Cubes w) :
    Calls Tryz.prog 54 #[.string a, .string b] w fun e w' => e = .returned (.bool (decide (a ≠ b) && decide (shaB a = shaB b))) ∧ Ext w w' := by
  have HC := Lib.hid hc
  clear hc
  by_cases hab : a = b
  · subst hab
    go_enter Tryz.func54, Tryz.ntmps54
    go_wp2_with fail
    go_ret
    exact ⟨by simp, ExtR w⟩
  · have hne : ¬ a.toList = b.toList := fun h => hab (toList_inj h)
    have hq : (a.toList == b.toList) = false := by simp [hne]
    have hd : decide (a ≠ b) = true := by simp [hab]
    have HD := Lib.hid hd
    clear hd
    go_enter Tryz.func54, Tryz.ntmps54
    go_wp2_with fail
    refine (of_t _ _ [a] (by simp) (rds_one (ExtR _)) (HC.out.ext ((ExtR w).alloc _))).mono ?_
    rintro e w1 ⟨rfl, hE1⟩
    rw [catB_one]
    have HE1 : Hid (Ext w w1) := Lib.hid (((ExtR w).alloc _).trans hE1)
    clear hE1
    go_wp2_with fail
    refine (of_t _ _ [b] (by simp) (rds_one (ExtR _)) ((HC.out.ext HE1.out).ext ((ExtR w1).alloc _))).mono ?_
    rintro e w2 ⟨rfl, hE2⟩
    rw [catB_one]
    have HE2 : Hid (Ext w w2) := Lib.hid (HE1.out.trans (((ExtR w1).alloc _).trans hE2))
    clear hE2
    go_wp2_with fail
    go_ret
    refine ⟨?_, HE2.out⟩
    have e : ((shaB a).toList == (shaB b).toList) = decide (shaB a = shaB b) := by
      by_cases h : shaB a = shaB b
      · simp [h]
      · have h3 : ¬ (shaB a).toList = (shaB b).toList := fun h2 => h (toList_inj h2)
        simp only [h, decide_false]; exact beq_eq_false_iff_ne.2 h3
    rw [HD.out, Bool.true_and, e]
    rfl
end
end Go.Proofs.YtllbcjclibbogaaGreatDoor
/- Two texts that collide, among two rows of them: what is told first. Plain. -/
namespace Go.Proofs.YtllbcjclibbogaaGreatDoor
section
open Go Go.RowKit
set_option linter.unusedSimpArgs false
set_option linter.unusedVariables false
/-- Do two texts hash alike, and are they not alike? -/
def collB (x y : ByteArray) : Bool := decide (x ≠ y) && decide (shaB x = shaB y)
def clashIn (ys : List ByteArray) (x : ByteArray) : Option (ByteArray × ByteArray) := (ys.find? (collB x)).map fun y => (x, y)
def clash2 (xs ys : List ByteArray) : Option (ByteArray × ByteArray) := xs.findSome? (clashIn ys)
theorem clash2_at {xs ys : List ByteArray} {i : Nat} {x : ByteArray} {r : ByteArray × ByteArray} (hx : xs[i]? = some x) (h0 : (xs.take i).findSome? (clashIn ys) = none) (h : clashIn ys x = some r) : clash2 xs ys = some r := by
  unfold clash2
  have hs : xs = xs.take i ++ xs.drop i := (List.take_append_drop i xs).symm
  have hd : xs.drop i = x :: xs.drop (i + 1) := by
    obtain ⟨hlt, e⟩ := List.getElem?_eq_some_iff.1 hx
    rw [← e]; exact List.drop_eq_getElem_cons hlt
  rw [hs, List.findSome?_append, h0, hd, List.findSome?_cons, h]; rfl
theorem clash2_step {xs ys : List ByteArray} {i : Nat} {x : ByteArray} (hx : xs[i]? = some x) (h0 : (xs.take i).findSome? (clashIn ys) = none) (h : ys.find? (collB x) = none) : (xs.take (i + 1)).findSome? (clashIn ys) = none := by
  rw [List.take_add_one, hx, List.findSome?_append, h0]
  simp [clashIn, h]
theorem find_at {ys : List ByteArray} {p : ByteArray → Bool} {j : Nat} {y : ByteArray} (hy : ys[j]? = some y) (h0 : (ys.take j).find? p = none) (h : p y = true) : ys.find? p = some y := by
  have hs : ys = ys.take j ++ ys.drop j := (List.take_append_drop j ys).symm
  have hd : ys.drop j = y :: ys.drop (j + 1) := by
    obtain ⟨hlt, e⟩ := List.getElem?_eq_some_iff.1 hy
    rw [← e]; exact List.drop_eq_getElem_cons hlt
  rw [hs, List.find?_append, h0, hd, List.find?_cons, h]; rfl
theorem find_step {ys : List ByteArray} {p : ByteArray → Bool} {j : Nat} {y : ByteArray} (hy : ys[j]? = some y) (h0 : (ys.take j).find? p = none) (h : p y = false) : (ys.take (j + 1)).find? p = none := by
  rw [List.take_add_one, hy, List.find?_append, h0]
  simp [h]
def clashV : Option (ByteArray × ByteArray) → Value
  | some (x, y) => .tuple #[.string x, .string y, .bool true]
  | none => .tuple #[.string ⟨#[]⟩, .string ⟨#[]⟩, .bool false]
end
end Go.Proofs.YtllbcjclibbogaaGreatDoor
/- Two texts that collide: where none is told the rows are apart. Plain. -/
namespace Go.Proofs.YtllbcjclibbogaaGreatDoor
section
open Go Go.RowKit
set_option linter.unusedSimpArgs false
set_option linter.unusedVariables false
end
end Go.Proofs.YtllbcjclibbogaaGreatDoor
/- nibble: Get of any text. -/
namespace Go.Proofs.YtllbcjclibbogaaGreatDoor
section
open Go Go.RowKit
set_option linter.unusedSimpArgs false
set_option linter.unusedVariables false
theorem path_nib (s : ByteArray) : validN (pathB s) = true := path_valid s
end
end Go.Proofs.YtllbcjclibbogaaGreatDoor
