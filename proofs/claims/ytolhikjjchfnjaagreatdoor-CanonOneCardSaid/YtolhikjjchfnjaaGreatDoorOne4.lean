/- Parts of the proof, one behind the other: ShaD, ShaE, ShaF, NodeA, Nibble, NibbleC, NodeB, Iter, IterE, NodeC, NodeD, NodeE. Each is under no condition but those that it states. -/
import Derived.Test.YtolhikjjchfnjaaGreatDoorOne3
import Derived.Test.YtolhikjjchfnjaaGreatDoorProg
import Derived.WalkKit
import Derived.LoopTactic
import Derived.Deep.QuietTactic
import Derived.BigQuiet
import Derived.Lib.Hide
import Derived.Sort.QuietIn
import Derived.LoopIn
import Derived.LoopNIn
import Derived.OwnWalkIn
/- sha: Sum. -/
namespace Go.Proofs.YtolhikjjchfnjaaGreatDoor
section
open Go Go.RowKit
set_option linter.unusedSimpArgs false
set_option linter.unusedVariables false
def zerosN (n : Nat) : Nat := (119 - n) % 64
def lenByte (sz : UInt64) (i : Nat) : UInt8 := UInt8.ofNat (sz.toNat * 8 % 18446744073709551616 / 2 ^ (56 - 8 * i))
def lenL (sz : UInt64) : List UInt8 := (List.range 8).map (lenByte sz)
def tailL (z : Nat) (sz : UInt64) : List UInt8 := 128 :: (List.replicate z 0 ++ lenL sz)
def tailK (z : Nat) (sz : UInt64) (k : Nat) : List UInt8 := 128 :: (List.replicate z 0 ++ ((lenL sz).take k ++ List.replicate (8 - k) 0))
theorem lenL_len (sz : UInt64) : (lenL sz).length = 8 := by simp [lenL]
theorem tailK_len (z : Nat) (sz : UInt64) (k : Nat) (hk : k ≤ 8) : (tailK z sz k).length = 1 + z + 8 := by simp [tailK, lenL_len]; omega
theorem tailK_all (z : Nat) (sz : UInt64) : tailK z sz 8 = tailL z sz := by
  unfold tailK tailL
  rw [List.take_of_length_le (by rw [lenL_len]; omega)]; simp
theorem tailK_set (z : Nat) (sz : UInt64) (k : Nat) (hk : k < 8) : (tailK z sz k).set (1 + z + k) (lenByte sz k) = tailK z sz (k + 1) := by
  have hl := lenL_len sz
  have h4 : k < (lenL sz).length := by omega
  have h5 : (lenL sz)[k] = lenByte sz k := by simp [lenL]
  unfold tailK
  rw [show 1 + z + k = (z + k) + 1 by omega, List.set_cons_succ, List.set_append_right _ _ (by simp)]
  simp only [List.length_replicate]
  rw [show z + k - z = k by omega, List.set_append_right _ _ (by simp [hl]; omega)]
  rw [show 8 - k = (8 - (k + 1)) + 1 by omega, List.replicate_succ, List.take_succ_eq_append_getElem h4, h5]
  simp [hl, Nat.min_eq_left (show k ≤ 8 by omega)]
theorem len_eq (sz : UInt64) (k : Nat) : IntKind.u64.wrap ((sz.toNat : Int) * 8) / 2 ^ (56 - 8 * k) % 256 = ((lenByte sz k).toNat : Int) := by
  unfold lenByte
  rw [UInt8.toNat_ofNat']
  have h : ∀ (a M p : Nat), ((a : Int) * 8 % (M : Int)) / ((p : Nat) : Int) % 256 = ((a * 8 % M / p % 256 : Nat) : Int) := by
    intro a M p
    simp only [Int.natCast_emod, Int.natCast_ediv, Int.natCast_mul]; rfl
  have h2 := h sz.toNat 18446744073709551616 (2 ^ (56 - 8 * k))
  rw [Int.natCast_pow] at h2
  exact h2
theorem bytesV_set (l : List UInt8) (k : Nat) (x : UInt8) : (bytesV l).set k (.int .u8 (x.toNat : Int)) = bytesV (l.set k x) := by unfold bytesV; rw [List.map_set]
theorem Tryz.uHash' : (match Tryz.prog.underlying 128 with | some (.struct _) => true | _ => false) = true := by kernel_rfl
theorem Tryz.uHash : ∃ fs, Tryz.prog.underlying 128 = some (.struct fs) := by
  have h := Tryz.uHash'
  cases hu : Tryz.prog.underlying 128 with
  | none => rw [hu] at h; cases h
  | some d => rw [hu] at h; cases d <;> first | exact ⟨_, rfl⟩ | cases h
theorem Tryz.iHash : (Tryz.prog.info? 128).map (·.size) = some 74 := by kernel_rfl
theorem Tryz.newHash (w : World) : (Instr.alloc 128 true (.tuple #[])).run Tryz.prog w = .ok (.pointer (some ⟨w.heap.size, 0, none⟩)) (w.alloc (.cells (hashCells (List.replicate 8 0) (List.replicate 64 0) 0 0).toArray 128)) := by kernel_rfl
theorem hashCells_len (ws : List UInt32) (B : List UInt8) (n sz : Int) : (hashCells ws B n sz).length = ws.length + B.length + 2 := by simp [hashCells]; omega
theorem hashCells_one (ws : List UInt32) (B : List UInt8) (n sz : Int) : ∀ v ∈ hashCells ws B n sz, v.oneCell' = true := by
  intro v hv
  unfold hashCells at hv
  rcases List.mem_append.1 hv with hv | hv
  · rcases List.mem_append.1 hv with hv | hv
    · exact wv_one v hv
    · exact bytesV_one _ v hv
  · simp only [List.mem_cons, List.not_mem_nil, or_false] at hv; rcases hv with rfl | rfl <;> rfl
def byteW (x : UInt32) : UInt8 := UInt8.ofNat x.toNat
def wBytes (x : UInt32) : List UInt8 := [byteW (shrW x 24), byteW (shrW x 16), byteW (shrW x 8), byteW x]
def outL (ws : List UInt32) : List UInt8 := ws.flatMap wBytes
theorem Tryz.run_byteW (x : UInt32) (w : World) : (convert 110 5 (wv x)).run Tryz.prog w = .ok (.int .u8 ((byteW x).toNat : Int)) w := by
  have h : ∀ n : Int, (convert 110 5 (.int .u32 n)).run Tryz.prog w = .ok (.int .u8 (IntKind.u8.wrap n)) w := fun n => by kernel_rfl
  unfold wv byteW
  rw [h, wrap_of_u8, ofNat_u8]
theorem Tryz.index8 (V : W8) (k : Nat) (hk : k < 8) (x : UInt32) (hx : V.words[k]? = some x) (w : World) : (Instr.index 124 (.agg (V.words.map wv).toArray) (.int .i64 (k : Int))).run Tryz.prog w = .ok (wv x) w := by
  obtain ⟨a, b, c, d, e, f, g, h⟩ := V
  rcases (show k = 0 ∨ k = 1 ∨ k = 2 ∨ k = 3 ∨ k = 4 ∨ k = 5 ∨ k = 6 ∨ k = 7 by omega) with rfl | rfl | rfl | rfl | rfl | rfl | rfl | rfl <;> (cases hx; kernel_rfl)
def OutRel (w : World) (V : W8) (v i : Value) (wr : World) : Prop := ∃ k : Nat, k ≤ 8 ∧ i = .int .i64 k ∧ ORow 5 1 w wr v (4 * k) (bytesV (outL (V.words.take k)))
/-- What Sum answers. -/
def sumB (s : HSt) (sz : UInt64) : ByteArray := ⟨(outL (pushAll s (tailL (zerosN s.n) sz)).V.words).toArray⟩
def TlRel (w : World) (g z L : Nat) (sz : UInt64) (i : Value) (wr : World) : Prop := ∃ k : Nat, k ≤ 8 ∧ i = .int .i64 k ∧ ORow 5 1 w wr (.slice (some ⟨g, 0, none⟩) L L) L (bytesV (tailK z sz k))
set_option maxRecDepth 100000 in
set_option maxHeartbeats 2000000 in
theorem sum_t (w : World) (bh : Nat) (s : HSt) (hs : s.Ok) (sz : UInt64) (hB : HashAt w bh s (sz.toNat : Int)) (hc : Cubes w) :
    Calls Tryz.prog 61 #[.pointer (some ⟨bh, 0, none⟩)] w fun e w' => e = .returned (.string (sumB s sz)) ∧ Ext w w' := by
  obtain ⟨i0, hi, hz0, hz1, hz2⟩ := info_parts Tryz.infoU8
  obtain ⟨fs, hfs⟩ := Tryz.uHash
  have hrg : w.rangeAt bh 0 (hashCells s.V.words s.B (s.n : Int) (sz.toNat : Int)) := fun j v hv => by rw [Nat.zero_add]; exact hB.cellL hv
  have hln : (hashCells s.V.words s.B (s.n : Int) (sz.toNat : Int)).length = 74 := by rw [hashCells_len, hs.1]; rfl
  have HB := Lib.hid hB
  have HC := Lib.hid hc
  have HS := Lib.hid hs
  have HRG := Lib.hid hrg
  have HLN := Lib.hid hln
  clear hB hc hs hrg hln
  go_enter Tryz.func61, Tryz.ntmps61
  go_wp2_with (first | (refine wpList_load_mid rfl 128 (.tmp 11) rfl bh 0 rfl _ _ HRG.out hfs rfl (by rw [HLN.out]; exact Tryz.iHash) ?_) | (refine wpList_new (cs := hashCells (List.replicate 8 0) (List.replicate 64 0) 0 0) Tryz.newHash rfl rfl ?_))
  intro W2 B2 E2
  refine wpList_fill (old := hashCells (List.replicate 8 0) (List.replicate 64 0) 0 0) (vs := hashCells s.V.words s.B (s.n : Int) (sz.toNat : Int)) rfl rfl rfl rfl B2 (by rw [HLN.out]; rfl) (by rw [HLN.out]; exact Tryz.iHash) (hashCells_one _ _ _ _) ?_
  intro W3 B3 K3
  obtain ⟨g3, hg3⟩ : ∃ g, g = w.heap.size := ⟨_, rfl⟩
  have X3 := Lib.hid (E2.trans' K3 (fun x hx e => by omega) : Keeps (fun _ => False) w W3)
  rw [← hg3] at B3 ⊢
  have hl3 : g3 < W3.heap.size := B3.lt
  have h03 : 0 < g3 := by rw [hg3]; exact HC.out.lt
  have HB3 : Hid (HashAt W3 g3 s (sz.toNat : Int)) := Lib.hid B3
  have q72 := HashAt.held (HB.out.keeps X3.out (fun h => h)) HS.out.1
  have q73 := Lib.hid (HashAt.siz (HB.out.keeps X3.out (fun h => h)) HS.out.1)
  clear B2 E2 B3 K3 HRG HLN HB
  obtain ⟨n, hn⟩ : ∃ n, n = s.n := ⟨_, rfl⟩
  have hn64 : n < 64 := by rw [hn]; exact HS.out.2
  rw [← hn] at q72
  obtain ⟨z, hz⟩ : ∃ z, z = zerosN n := ⟨_, rfl⟩
  have hzq : (119 - (n : Int)).tmod 64 = (z : Int) := by rw [hz]; unfold zerosN; rw [Int.tmod_eq_emod_of_nonneg (by omega)]; omega
  have hz64 : z < 64 := by rw [hz]; unfold zerosN; omega
  have HZ := Lib.hid hz
  have HN := Lib.hid hn
  clear hz hn
  obtain ⟨L, hL⟩ : ∃ L, L = 1 + z + 8 := ⟨_, rfl⟩
  have hLq : 1 + (z : Int) + 8 = (L : Int) := by omega
  have hL0 : (0 : Int) < (L : Int) := by omega
  have HL := Lib.hid hL
  have HG3 := Lib.hid hg3
  have hLb : L ≤ 72 := by omega
  clear hg3 hL
  have hmk := run_make_len (P := Tryz.prog) W3 Tryz.uBytes hi hz0 hz1 rfl .i64 .i64 L (by rw [hz2]; omega) (by unfold maxLen; omega)
  have hrow := ORow.lit (T := 5) (sz := 1) (List.replicate L (.int .u8 0)).toArray (n := L) (ExtR W3) (by unfold maxLen; omega) (by simp)
  obtain ⟨g, hg⟩ : ∃ g, g = W3.heap.size := ⟨_, rfl⟩
  obtain ⟨W4, hW4⟩ : ∃ W, W = W3.alloc (.cells (List.replicate L (Value.int .u8 0)).toArray 5) := ⟨_, rfl⟩
  rw [← hg, ← hW4] at hmk hrow
  have h3g : g3 < g := by rw [hg]; exact hl3
  have HGG := Lib.hid hg
  clear hg hW4 hl3
  have hcell0 := hrow.own.cellAt 0 (by omega)
  have hfr0 := hrow.own.frozenAt 0
  have HR4 := Lib.hid hrow
  clear hrow
  simp only at hcell0
  rw [List.getElem?_eq_getElem (by simp; omega)] at hcell0
  go_wp2_with fail
  have hset0 := HR4.out.set 0 (.int .u8 128)
  have e0 : ((List.replicate L (Value.int .u8 0)).toArray.toList).set 0 (.int .u8 128) = bytesV (tailK z sz 0) := by
    have e1 : tailK z sz 0 = (List.replicate L (0 : UInt8)).set 0 128 := by
      rw [HL.out, show 1 + z + 8 = (z + 8) + 1 by omega, List.replicate_succ, List.set_cons_zero]; unfold tailK
      simp only [List.take_zero, List.nil_append, Nat.sub_zero, List.replicate_append_replicate]
    rw [e1, ← bytesV_set]
    congr 1
    simp [bytesV]
  rw [e0] at hset0
  obtain ⟨W5, hW5⟩ : ∃ W, W = W4.setCell ⟨g, 0, none⟩ (.int .u8 128) := ⟨_, rfl⟩
  rw [← hW5] at hset0 ⊢
  have HR5 := Lib.hid hset0
  clear hset0 e0 hcell0 hfr0 HR4 hmk hzq hLq hL0 q72 hW5
  go_loopw [25] (fun i wr => TlRel W3 g z L sz i wr) (fun i _ => 8 - (intOf i).toNat)
  case atStart => exact ⟨0, by omega, rfl, HR5.out⟩
  case round =>
    obtain ⟨k, hk, rfl, hR⟩ := hrel
    have HR := Lib.hid hR
    clear hR
    by_cases hlt : k < 8
    · have q73r := cell_ext q73.out HR.out.ext
      have hcell := HR.out.own.cellAt (1 + z + k) (by have := HL.out; omega)
      have hfr := HR.out.own.frozenAt (1 + z + k)
      rw [List.getElem?_eq_getElem (by rw [bytesV_len, tailK_len z sz k (by omega)]; omega)] at hcell
      have c0 : (0 : Int) ≤ 1 + (z : Int) + (k : Int) := by omega
      have c1 : 1 + (z : Int) + (k : Int) < (L : Int) := by have := HL.out; omega
      have c2 : (1 + (z : Int) + (k : Int)).toNat = 1 + z + k := by omega
      have c3 : (0 : Int) ≤ 56 - 8 * (k : Int) := by omega
      have c4 : (56 - 8 * (k : Int)).toNat = 56 - 8 * k := by omega
      have c5 : 56 - 8 * (k : Int) < 64 := by omega
      go_wp2_with fail
      rw [len_eq]
      have hset := HR.out.set (1 + z + k) (.int .u8 ((lenByte sz k).toNat : Int))
      rw [bytesV_set, tailK_set z sz k hlt] at hset
      exact ⟨⟨k + 1, by omega, by go_num, hset⟩, by simp [intOf]; omega⟩
    · have hk8 : k = 8 := by omega
      subst hk8
      have hown := HR.out.own
      rw [tailK_all] at hown
      have hcv := run_string_row wr Tryz.uBytes Tryz.uU8 Tryz.uStr hown
      have HXr := Lib.hid HR.out.ext
      clear hown HR5 HR q73
      go_wp2_with fail
      rw [show ((8 : Nat) : Int) = (8 : Int) from rfl]
      refine (write_t wr g3 s HS.out sz ⟨(tailL z sz).toArray⟩ (HB3.out.keeps HXr.out (fun h => h)) (HC.out.ext (X3.out.trans HXr.out)) (by omega)).mono ?_
      rintro e w6 ⟨rfl, hH6, hK6⟩
      obtain ⟨S6, hS6⟩ : ∃ x, x = pushAll s (tailL z sz) := ⟨_, rfl⟩
      have hH6' : HashAt w6 g3 S6 ((sz + UInt64.ofNat (⟨(tailL z sz).toArray⟩ : ByteArray).size).toNat : Int) := by rw [hS6]; exact hH6
      have hok6 : S6.Ok := by rw [hS6]; exact HS.out.all _
      have HX6 : Hid (Ext w w6) := Lib.hid ((X3.out.trans HXr.out).trans' hK6 (fun x hx e => by have := HG3.out; omega))
      have HS6 := Lib.hid hS6
      obtain ⟨w7, hmk0, hown7, hgr7⟩ := run_make_own (P := Tryz.prog) (w := w6) w6.heap.size 63 5 i0 _ 1 Tryz.uBytes hi hz0 hz1 .i64 .i64 32 (by rw [hz2]; omega) (by unfold maxLen; omega) (Nat.le_refl _)
      have hmk2 : (Instr.makeSlice 63 (.int .i64 0) (.int .i64 32)).run Tryz.prog w6 = .ok (.slice (some ⟨w6.heap.size, 0, none⟩) 0 32) w7 := by rw [← hmk0]; rfl
      have HR7 : Hid (ORow 5 1 w6 w7 (.slice (some ⟨w6.heap.size, 0, none⟩) 0 32) 0 []) := Lib.hid (ORow.made w6 hown7 hgr7)
      have hH7 : HashAt w7 g3 S6 _ := hH6'.keeps HR7.out.ext (fun h => h)
      have hrg7 : w7.rangeAt g3 0 (S6.V.words.map wv) := fun j v hv => by
        rw [Nat.zero_add]
        exact hH7.cellL (by unfold hashCells; rw [List.append_assoc, List.getElem?_append_left (List.getElem?_eq_some_iff.1 hv).1]; exact hv)
      have HRG7 := Lib.hid hrg7
      obtain ⟨V6, hV6⟩ : ∃ v, v = S6.V := ⟨_, rfl⟩
      rw [← hV6] at HRG7
      have HV6 := Lib.hid hV6
      clear hH6 hH6' hok6 hS6 hmk0 hown7 hgr7 hH7 hrg7 hK6 hV6 hcv
      go_wp2_with (refine wpList_load_mid rfl 124 (.tmp 49) rfl g3 0 rfl _ _ HRG7.out Tryz.uArr8 rfl Tryz.iArr8 ?_)
      clear hmk2 HRG7 HC HB3
      have hS24 : ∀ (p : UInt32) (w : World), (binOp .shr 110 (wv p) (.int .u64 24)).run Tryz.prog w = .ok (wv (shrW p 24)) w := fun _ _ => run_shrW 24 (by decide) .u64
      have hS16 : ∀ (p : UInt32) (w : World), (binOp .shr 110 (wv p) (.int .u64 16)).run Tryz.prog w = .ok (wv (shrW p 16)) w := fun _ _ => run_shrW 16 (by decide) .u64
      have hS8 : ∀ (p : UInt32) (w : World), (binOp .shr 110 (wv p) (.int .u64 8)).run Tryz.prog w = .ok (wv (shrW p 8)) w := fun _ _ => run_shrW 8 (by decide) .u64
      have hCv := Tryz.run_byteW
      go_loopw [7, 51] (fun v i wr => OutRel w6 V6 v i wr) (fun _ i _ => 8 - (intOf i).toNat)
      case atStart => exact ⟨0, by omega, rfl, HR7.out⟩
      case round =>
        obtain ⟨k, hk, rfl, hR⟩ := hrel
        obtain ⟨a, c, rfl⟩ := hR.sl
        have HR := Lib.hid hR
        clear hR
        by_cases hlt : k < 8
        · obtain ⟨x, hx⟩ : ∃ x, V6.words[k]? = some x := ⟨_, List.getElem?_eq_getElem (by simp [W8.words]; omega)⟩
          have hix := fun w => Tryz.index8 V6 k hlt x hx w
          have hstep : outL (V6.words.take (k + 1)) = outL (V6.words.take k) ++ wBytes x := by
            unfold outL
            rw [List.take_add_one, hx]; simp
          have HST := Lib.hid hstep
          clear hx hstep
          go_wp2_with (at_builtin; refine wpList_app Tryz.sBytes (HR.out.mono ((ExtR wr).alloc _)) (.tmp 54) (.tmp 66) rfl rfl rfl (news_blk (Blk.new wr _)) (news := bytesV (wBytes x)) (bytesV_one _) rfl rfl ?c1 ?c2 (fun v' w' r1 r2 r3 => ?_))
          case c1 => unfold maxLen; omega
          case c2 => omega
          rw [← bytesV_append, ← HST.out, show 4 * k + 4 = 4 * (k + 1) by omega] at r1
          have HR2 := Lib.hid r1
          clear r1 r2 r3
          obtain ⟨a2, c2, rfl⟩ := HR2.out.sl
          go_wp2_with fail
          exact ⟨⟨k + 1, by omega, by go_num, HR2.out⟩, by simp [intOf]; omega⟩
        · have hk8 : k = 8 := by omega
          subst hk8
          have hown := HR.out.own
          rw [List.take_of_length_le (by simp [W8.words])] at hown
          have hcv := run_string_row wr Tryz.uBytes Tryz.uU8 Tryz.uStr hown
          have hres : (⟨(outL V6.words).toArray⟩ : ByteArray) = sumB s sz := by
            unfold sumB; rw [HV6.out, HS6.out, HZ.out, HN.out]
          rw [hres] at hcv
          have HXF := Lib.hid (HX6.out.trans HR.out.ext)
          clear hown hres
          go_wp2_with fail
          go_ret
          exact ⟨rfl, HXF.out⟩
end
end Go.Proofs.YtolhikjjchfnjaaGreatDoor
/- sha: New, Of, Collide. -/
namespace Go.Proofs.YtolhikjjchfnjaaGreatDoor
section
open Go Go.RowKit
set_option linter.unusedSimpArgs false
set_option linter.unusedVariables false
def initH : HSt := ⟨⟨0x6a09e667, 0xbb67ae85, 0x3c6ef372, 0xa54ff53a, 0x510e527f, 0x9b05688c, 0x1f83d9ab, 0x5be0cd19⟩, List.replicate 64 0, 0⟩
theorem initH_ok : initH.Ok := ⟨rfl, by decide⟩
/-- The hash of bytes. -/
def shaL (l : List UInt8) : ByteArray := sumB (pushAll initH l) (UInt64.ofNat l.length)
def shaB (s : ByteArray) : ByteArray := shaL s.data.toList
set_option maxRecDepth 100000 in
set_option maxHeartbeats 2000000 in
theorem new_t (w : World) : Calls Tryz.prog 59 #[] w fun e w' => e = .returned (.pointer (some ⟨w.heap.size, 0, none⟩)) ∧ HashAt w' w.heap.size initH 0 ∧ Ext w w' := by
  go_enter Tryz.func59, Tryz.ntmps59
  go_wp2_with fail
  go_ret
  refine ⟨rfl, ?_, (ExtR w).alloc _⟩
  exact (congrArg (fun c => Blk (w.alloc (.cells c 128)) w.heap.size (.cells (hashCells initH.V.words initH.B (initH.n : Int) 0).toArray 128)) (by kernel_rfl)).mp (Blk.new w _)
def OfRel (w : World) (g : Nat) (I : HSt) (xs : List ByteArray) (i : Value) (wr : World) : Prop := ∃ k : Nat, k ≤ xs.length ∧ i = .int .i64 k ∧ HashAt wr g (pushAll I (catB (xs.take k)).data.toList) ((UInt64.ofNat (catB (xs.take k)).data.toList.length).toNat : Int) ∧ Keeps (fun x => x = g) w wr
theorem RdS.slice {w : World} {v : Value} {xs : List ByteArray} (h : RdS w v xs) : ∃ a c, v = .slice a xs.length c ∧ ∀ (j : Nat) x, xs[j]? = some x → ∃ b o, a = some ⟨b, o, none⟩ ∧ w.cell? ⟨b, o + j, none⟩ = some (.string x) := by
  rcases h with ⟨a, c, rfl, rfl⟩ | ⟨b, o, c, rfl, h2, h3, h4⟩
  · exact ⟨a, c, rfl, fun j x hx => by simp at hx⟩
  · exact ⟨some ⟨b, o, none⟩, c, rfl, fun j x hx => ⟨b, o, rfl, h4 j x hx⟩⟩
theorem catB_step (xs : List ByteArray) (k : Nat) (x : ByteArray) (hx : xs[k]? = some x) : (catB (xs.take (k + 1))).data.toList = (catB (xs.take k)).data.toList ++ x.data.toList := by
  unfold catB
  rw [List.take_add_one, hx]; simp
set_option maxRecDepth 100000 in
set_option maxHeartbeats 2000000 in
theorem of_t (w : World) (v : Value) (xs : List ByteArray) (hlen : xs.length ≤ 1000000) (hr : RdS w v xs) (hc : Cubes w) :
    Calls Tryz.prog 34 #[v] w fun e w' => e = .returned (.string (shaB (catB xs))) ∧ Ext w w' := by
  obtain ⟨a, c, rfl, hcl⟩ := hr.slice
  have HCL := Lib.hid hcl
  have HC := Lib.hid hc
  clear hcl hc hr
  obtain ⟨I, hI⟩ : ∃ I, I = initH := ⟨_, rfl⟩
  have hIo : I.Ok := by rw [hI]; exact initH_ok
  have HIo := Lib.hid hIo
  have HI := Lib.hid hI
  clear hI hIo
  go_enter Tryz.func34, Tryz.ntmps34
  go_wp2_with fail
  refine (new_t w).mono ?_
  rintro e w1 ⟨rfl, hH1, hE1⟩
  obtain ⟨g, hg⟩ : ∃ g, g = w.heap.size := ⟨_, rfl⟩
  rw [← hg] at hH1 ⊢
  rw [← HI.out] at hH1
  have HH1 := Lib.hid hH1
  have HE1 := Lib.hid hE1
  have h0g : 0 ≠ g := by have := HC.out.lt; omega
  have HG := Lib.hid hg
  clear hH1 hE1 hg
  go_wp2_with fail
  go_loopw [9] (fun i wr => OfRel w1 g I xs i wr) (fun i _ => xs.length - (intOf i).toNat)
  case atStart => exact ⟨0, by omega, rfl, by simpa [catB, pushAll] using HH1.out, Keeps.refl _ _⟩
  case round =>
    obtain ⟨k, hk, rfl, hH, hK⟩ := hrel
    have HH := Lib.hid hH
    have HK := Lib.hid hK
    clear hH hK
    by_cases hlt : k < xs.length
    · obtain ⟨x, hx⟩ : ∃ x, xs[k]? = some x := ⟨_, List.getElem?_eq_getElem hlt⟩
      obtain ⟨b, o, rfl, hcell⟩ := HCL.out k x hx
      have hbg : b ≠ g := by
        have : b < w.heap.size := World.block_lt_of_cell? w _ hcell
        have := HG.out; omega
      have hcw : wr.cell? ⟨b, o + k, none⟩ = some (.string x) := by
        have h1 := cell_ext hcell HE1.out
        have hlt1 : b < w1.heap.size := World.block_lt_of_cell? w1 _ h1
        have e := HK.out.block b hlt1 hbg
        unfold World.cell? at *
        rw [e]; exact h1
      have hst := catB_step xs k x hx
      have HST := Lib.hid hst
      clear hst hcell hx
      go_wp2_with fail
      refine (write_t wr g _ (HIo.out.all _) _ x HH.out ((HC.out.ext HE1.out).keeps HK.out h0g) (Ne.symm h0g)).mono ?_
      rintro e w2 ⟨rfl, hH2, hK2⟩
      have HH2 := Lib.hid hH2
      have HK2 := Lib.hid (HK.out.trans hK2)
      clear hH2 hK2 hcw
      go_wp2_with fail
      refine ⟨⟨k + 1, by omega, by go_num, ?_, HK2.out⟩, by simp [intOf]; omega⟩
      have h := HH2.out
      rw [← pushAll_append, ← HST.out] at h
      rw [HST.out, List.length_append, UInt64.ofNat_add]
      rw [HST.out, Lib.size_eq] at h
      exact h
    · have hkn : k = xs.length := by omega
      subst hkn
      have hH := HH.out
      rw [List.take_length] at hH
      have HH' := Lib.hid hH
      clear hH HH
      have HXr : Hid (Ext w wr) := Lib.hid (HE1.out.trans' HK.out (fun x hx e => by have := HG.out; omega))
      go_wp2_with fail
      refine (sum_t wr g _ (HIo.out.all _) _ HH'.out (HC.out.ext HXr.out)).mono ?_
      rintro e w2 ⟨rfl, hE2⟩
      have HX2 := Lib.hid (HXr.out.trans hE2)
      clear hE2
      go_wp2_with fail
      go_ret
      refine ⟨?_, HX2.out⟩
      rw [HI.out]; unfold shaB shaL; rfl
end
end Go.Proofs.YtolhikjjchfnjaaGreatDoor
/- sha: Collide. -/
namespace Go.Proofs.YtolhikjjchfnjaaGreatDoor
section
open Go Go.RowKit
set_option linter.unusedSimpArgs false
set_option linter.unusedVariables false
theorem toList_inj {a b : ByteArray} (h : a.toList = b.toList) : a = b := by
  rw [ByteArray.toList_eq, ByteArray.toList_eq] at h
  obtain ⟨⟨l⟩⟩ := a; obtain ⟨⟨m⟩⟩ := b
  simp at h; rw [h]
theorem catB_one (a : ByteArray) : catB [a] = a := by
  obtain ⟨⟨l⟩⟩ := a; simp [catB]
theorem rds_one {W w' : World} {x : ByteArray} {T : TypeId} (h : Ext (W.alloc (.cells #[.string x] T)) w') : RdS w' (.slice (some ⟨W.heap.size, 0, none⟩) 1 1) [x] := by
  have hB : Blk w' W.heap.size (.cells #[.string x] T) := (Blk.new W _).keeps h (fun h => h)
  exact .inr ⟨W.heap.size, 0, 1, rfl, hB.lt, Nat.le_refl _, fun j y hy => by
    rcases j with _ | j
    · cases hy; exact hB.cell (by rfl)
    · simp at hy⟩
set_option maxRecDepth 100000 in
set_option maxHeartbeats 2000000 in
theorem collide_t (w : World) (a b : ByteArray) (hc : Cubes w) :
    Calls Tryz.prog 32 #[.string a, .string b] w fun e w' => e = .returned (.bool (decide (a ≠ b) && decide (shaB a = shaB b))) ∧ Ext w w' := by
  have HC := Lib.hid hc
  clear hc
  by_cases hab : a = b
  · subst hab
    go_enter Tryz.func32, Tryz.ntmps32
    go_wp2_with fail
    go_ret
    exact ⟨by simp, ExtR w⟩
  · have hne : ¬ a.toList = b.toList := fun h => hab (toList_inj h)
    have hq : (a.toList == b.toList) = false := by simp [hne]
    have hd : decide (a ≠ b) = true := by simp [hab]
    have HD := Lib.hid hd
    clear hd
    go_enter Tryz.func32, Tryz.ntmps32
    go_wp2_with fail
    refine (of_t _ _ [a] (by simp) (rds_one (ExtR _)) (HC.out.ext ((ExtR w).alloc _))).mono ?_
    rintro e w1 ⟨rfl, hE1⟩
    rw [catB_one]
    have HE1 : Hid (Ext w w1) := Lib.hid (((ExtR w).alloc _).trans hE1)
    clear hE1
    go_wp2_with fail
    refine (of_t _ _ [b] (by simp) (rds_one (ExtR _)) ((HC.out.ext HE1.out).ext ((ExtR w1).alloc _))).mono ?_
    rintro e w2 ⟨rfl, hE2⟩
    rw [catB_one]
    have HE2 : Hid (Ext w w2) := Lib.hid (HE1.out.trans (((ExtR w1).alloc _).trans hE2))
    clear hE2
    go_wp2_with fail
    go_ret
    refine ⟨?_, HE2.out⟩
    have e : ((shaB a).toList == (shaB b).toList) = decide (shaB a = shaB b) := by
      by_cases h : shaB a = shaB b
      · simp [h]
      · have h3 : ¬ (shaB a).toList = (shaB b).toList := fun h2 => h (toList_inj h2)
        simp only [h, decide_false]; exact beq_eq_false_iff_ne.2 h3
    rw [HD.out, Bool.true_and, e]
    rfl
end
end Go.Proofs.YtolhikjjchfnjaaGreatDoor
/- node: plain, Hash, Ref. -/
namespace Go.Proofs.YtolhikjjchfnjaaGreatDoor
section
open Go Go.RowKit
set_option linter.unusedSimpArgs false
set_option linter.unusedVariables false
theorem outL_len (ws : List UInt32) : (outL ws).length = 4 * ws.length := by
  unfold outL
  induction ws with
  | nil => rfl
  | cons x r ih => rw [List.flatMap_cons, List.length_append, ih]; simp [wBytes]; omega
theorem sumB_size (s : HSt) (sz : UInt64) : (sumB s sz).size = 32 := by
  rw [Lib.size_eq]; unfold sumB
  rw [List.toList_toArray, outL_len]; rfl
theorem shaB_size (s : ByteArray) : (shaB s).size = 32 := sumB_size _ _
def refB (s : ByteArray) : ByteArray := if s.size < 32 then s else textB (shaB s)
set_option maxRecDepth 100000 in
set_option maxHeartbeats 1000000 in
theorem ref_c (w : World) (s : ByteArray) (hc : Cubes w) : Calls Tryz.prog 101 #[.string s] w fun e w' => e = .returned (.string (refB s)) ∧ Ext w w' := by
  have HC := Lib.hid hc
  clear hc
  by_cases hlt : s.size < 32
  · have hq : (s.size : Int) < 32 := by omega
    go_enter Tryz.func101, Tryz.ntmps101
    go_wp2_with fail
    go_ret
    exact ⟨by unfold refB; rw [if_pos hlt]; rfl, ExtR w⟩
  · have hq : ¬ (s.size : Int) < 32 := by omega
    go_enter Tryz.func101, Tryz.ntmps101
    go_wp2_with fail
    refine (of_t _ _ [s] (by simp) (rds_one (ExtR _)) (HC.out.ext ((ExtR w).alloc _))).mono ?_
    rintro e w1 ⟨rfl, hE1⟩
    rw [catB_one]
    have HE1 : Hid (Ext w w1) := Lib.hid (((ExtR w).alloc _).trans hE1)
    clear hE1
    obtain ⟨h, hh⟩ : ∃ h, h = shaB s := ⟨_, rfl⟩
    have hhs : h.size ≤ 1000000000 := by rw [hh, shaB_size]; omega
    rw [← hh]
    have HH := Lib.hid hh
    clear hh
    go_wp2_with fail
    refine (text_c w1 h hhs).mono ?_
    rintro e w2 ⟨rfl, hE2⟩
    have HE2 := Lib.hid (HE1.out.trans hE2)
    clear hE2 hhs
    go_wp2_with fail
    go_ret
    exact ⟨by unfold refB; rw [if_neg hlt, ← HH.out]; rfl, HE2.out⟩
/-- A text's item that stands alone: what is in it. -/
def plainB (s : ByteArray) (r : Bool × Nat × Nat) : Option ByteArray := if r.1 = false ∧ r.2.1 + r.2.2 = s.size then some (s.extract r.2.1 (r.2.1 + r.2.2)) else none
def optV : Option ByteArray → Value
  | some x => .tuple #[.string x, .bool true]
  | none => .tuple #[.string ⟨#[]⟩, .bool false]
set_option maxRecDepth 10000 in
theorem cutN_le {s : ByteArray} {r : Bool × Nat × Nat} (h : cutN s = some r) : r.2.1 + r.2.2 ≤ s.size := by
  unfold cutN at h
  by_cases h0 : 0 < s.size
  · rw [dif_pos h0] at h
    simp only at h
    by_cases h1 : s[0].toNat < 128
    · rw [if_pos h1] at h
      obtain rfl := Option.some.inj h; simp only; omega
    · rw [if_neg h1] at h
      obtain ⟨lm, hlm⟩ : ∃ lm : Bool × Nat, lm = if s[0].toNat < 192 then (false, s[0].toNat - 128) else (true, s[0].toNat - 192) := ⟨_, rfl⟩
      rw [← hlm] at h
      clear hlm
      obtain ⟨l, m⟩ := lm
      simp only at h
      by_cases h3 : m ≤ 55
      · rw [if_pos h3] at h
        split at h
        · rename_i hc; obtain rfl := Option.some.inj h; exact hc.1
        · cases h
      · rw [if_neg h3] at h
        split at h
        · split at h
          · rename_i hc; obtain rfl := Option.some.inj h; exact hc
          · cases h
        · cases h
  · rw [dif_neg h0] at h; cases h
set_option maxRecDepth 100000 in
set_option maxHeartbeats 1000000 in
theorem plain_c (w : World) (s : ByteArray) (r : Bool × Nat × Nat) (hs : s.size ≤ 1000000000) (h : cutN s = some r) : Calls Tryz.prog 100 #[.string s] w fun e w' => e = .returned (optV (plainB s r)) ∧ Ext w w' := by
  have hle := cutN_le h
  go_enter Tryz.func100, Tryz.ntmps100
  go_wp2_with fail
  refine (split_c w s r hs h).mono ?_
  rintro e w1 ⟨rfl, hE⟩
  obtain ⟨x, hx⟩ : ∃ x, x = s.extract r.2.1 (r.2.1 + r.2.2) := ⟨_, rfl⟩
  obtain ⟨y, hy⟩ : ∃ x, x = s.extract (r.2.1 + r.2.2) s.size := ⟨_, rfl⟩
  have hys : y.size = s.size - (r.2.1 + r.2.2) := by rw [hy]; simp [ByteArray.size_extract]
  rw [← hx, ← hy]
  obtain ⟨l, p⟩ := r
  simp only at hys hle
  have HE := Lib.hid hE
  have HX := Lib.hid hx
  clear hE h hx hy hs
  simp only
  cases l with
  | true =>
    go_wp2_with fail
    exact bodyPost_ret (v := optV none) (by kernel_rfl) rfl ⟨by unfold plainB; rw [if_neg (by simp)], HE.out⟩
  | false =>
    by_cases he : p.1 + p.2 = s.size
    · have hy0 : y = ⟨#[]⟩ := by
        have : y.size = 0 := by omega
        obtain ⟨⟨l⟩⟩ := y
        cases l with
        | nil => rfl
        | cons x y => exact absurd this (Nat.succ_ne_zero _)
      subst hy0
      clear hys
      go_wp2_with fail
      exact bodyPost_ret (v := optV (some x)) (by kernel_rfl) rfl ⟨by unfold plainB; rw [if_pos ⟨rfl, he⟩, HX.out], HE.out⟩
    · have hne := ne_empty (s := y) (by omega)
      clear hys
      go_wp2_with fail
      exact bodyPost_ret (v := optV none) (by kernel_rfl) rfl ⟨by unfold plainB; rw [if_neg (by simp [he])], HE.out⟩
/-- The hash of which s is the text. -/
def hashB (s : ByteArray) (r : Bool × Nat × Nat) : Option ByteArray := (plainB s r).filter (fun x => x.size = 32)
set_option maxRecDepth 100000 in
set_option maxHeartbeats 1000000 in
theorem hash_c (w : World) (s : ByteArray) (r : Bool × Nat × Nat) (hs : s.size ≤ 1000000000) (h : cutN s = some r) : Calls Tryz.prog 63 #[.string s] w fun e w' => e = .returned (optV (hashB s r)) ∧ Ext w w' := by
  go_enter Tryz.func63, Tryz.ntmps63
  go_wp2_with fail
  refine (plain_c w s r hs h).mono ?_
  rintro e w1 ⟨rfl, hE⟩
  have HE := Lib.hid hE
  have hb : hashB s r = (plainB s r).filter (fun x => x.size = 32) := rfl
  obtain ⟨o, ho⟩ : ∃ o, o = plainB s r := ⟨_, rfl⟩
  rw [← ho] at hb ⊢
  have HB := Lib.hid hb
  clear hE h hs ho hb
  cases o with
  | none =>
    unfold optV
    simp only
    go_wp2_with fail
    exact bodyPost_ret (v := optV none) (by kernel_rfl) rfl ⟨by rw [HB.out]; rfl, HE.out⟩
  | some x =>
    unfold optV
    simp only
    by_cases hx : x.size = 32
    · have hq : ((x.size : Int) == 32) = true := by simp; omega
      have hq' : (x.size : Int) = 32 := by omega
      go_wp2_with fail
      exact bodyPost_ret (v := optV (some x)) (by kernel_rfl) rfl ⟨by rw [HB.out]; simp [Option.filter, hx], HE.out⟩
    · have hq : ((x.size : Int) == 32) = false := by simp; omega
      have hq' : ¬ (x.size : Int) = 32 := by omega
      go_wp2_with fail
      exact bodyPost_ret (v := optV none) (by kernel_rfl) rfl ⟨by rw [HB.out]; simp [Option.filter, hx], HE.out⟩
end
end Go.Proofs.YtolhikjjchfnjaaGreatDoor
/- nibble: Valid, Common. -/
namespace Go.Proofs.YtolhikjjchfnjaaGreatDoor
section
open Go Go.RowKit
set_option linter.unusedSimpArgs false
set_option linter.unusedVariables false

def validN (s : ByteArray) : Bool := s.data.toList.all (· ≤ 15)

theorem all_take (s : ByteArray) {k : Nat} (h : k < s.size) (p : UInt8 → Bool) : (s.data.toList.take (k + 1)).all p = ((s.data.toList.take k).all p && p s[k]) := by
  have hl : k < s.data.toList.length := by simpa using h
  rw [List.take_succ_eq_append_getElem hl, List.all_append]
  simp
  rfl

set_option maxHeartbeats 1000000 in
theorem valid_c (w : World) (s : ByteArray) (hs : s.size ≤ 1000000000) : Calls Tryz.prog 149 #[.string s] w fun e w' => e = .returned (.bool (validN s)) ∧ w' = w := by
  go_enter Tryz.func149, Tryz.ntmps149
  go_wp2
  go_loop [6] (fun i => ∃ k : Nat, k ≤ s.size ∧ i = .int .i64 k ∧ (s.data.toList.take k).all (· ≤ 15) = true) (fun i => s.size - (intOf i).toNat)
  case atStart => exact ⟨0, Nat.zero_le _, rfl, rfl⟩
  case round =>
    obtain ⟨k, hk, rfl, hall⟩ := hrel
    by_cases hlt : k < s.size
    · have hall' := all_take s hlt (· ≤ 15)
      rw [hall] at hall'
      have HN := Lib.hid hall'
      clear hall'
      go_wp2
      · have hgt : 15 < (s[k].toNat : Int) := by assumption
        go_ret
        refine ⟨?_, rfl⟩
        have hf : decide (s[k] ≤ 15) = false := by
          simp only [decide_eq_false_iff_not, UInt8.le_iff_toNat_le]
          have : (15 : UInt8).toNat = 15 := rfl
          omega
        have h2 : validN s = false := by
          have h3 := HN.out
          simp only [hf, Bool.and_false] at h3
          unfold validN
          rw [← List.take_append_drop (k + 1) s.data.toList, List.all_append, h3]; rfl
        rw [h2]; rfl
      · have hle : (s[k].toNat : Int) ≤ 15 := by assumption
        have ht : decide (s[k] ≤ 15) = true := by
          simp only [decide_eq_true_eq, UInt8.le_iff_toNat_le]
          have : (15 : UInt8).toNat = 15 := rfl
          omega
        have h3 := HN.out
        simp only [ht, Bool.and_true] at h3
        go_round
        case rel => exact ⟨k + 1, by omega, by go_num, h3⟩
        case measure => simp [intOf]; omega
    · have hks : k = s.size := by omega
      have hv : validN s = true := by
        unfold validN
        rw [← hall, hks, List.take_of_length_le]
        simp
      go_wp2
      go_ret
      exact ⟨rfl, rfl⟩

/-- How many bytes two texts begin with alike. -/
def common : List UInt8 → List UInt8 → Nat
  | x :: r, y :: t => if x = y then common r t + 1 else 0
  | _, _ => 0
theorem common_take : ∀ (a b : List UInt8) (k : Nat), a.take k = b.take k → k ≤ a.length → k ≤ b.length → common a b = k + common (a.drop k) (b.drop k)
  | _, _, 0, _, _, _ => by simp
  | x :: r, y :: t, k + 1, h, h1, h2 => by
    simp only [List.take_succ_cons, List.cons.injEq] at h
    simp only [List.drop_succ_cons, common, h.1, if_true]
    rw [common_take r t k h.2 (by simpa using h1) (by simpa using h2)]; omega
  | [], _, k + 1, _, h1, _ => by simp at h1
  | _ :: _, [], k + 1, _, _, h2 => by simp at h2
def commonN (a b : ByteArray) : Nat := common a.data.toList b.data.toList

theorem drop_at (s : ByteArray) {k : Nat} (h : k < s.size) : s.data.toList.drop k = s[k] :: s.data.toList.drop (k + 1) := by
  have hl : k < s.data.toList.length := by simpa using h
  rw [List.drop_eq_getElem_cons hl]; simp; rfl
theorem common_stop {s t : ByteArray} {k : Nat} (h : s.data.toList.take k = t.data.toList.take k) (h1 : k < s.size) (h2 : k < t.size) (hne : ((s[k].toNat : Int) != (t[k].toNat : Int)) = true) : commonN s t = k := by
  have hn : s[k] ≠ t[k] := fun e => by rw [e] at hne; simp at hne
  unfold commonN
  rw [common_take _ _ k h (by simpa using Nat.le_of_lt h1) (by simpa using Nat.le_of_lt h2), drop_at s h1, drop_at t h2]
  simp [common, hn]
theorem common_step {s t : ByteArray} {k : Nat} (h : s.data.toList.take k = t.data.toList.take k) (h1 : k < s.size) (h2 : k < t.size) (heq : ((s[k].toNat : Int) != (t[k].toNat : Int)) = false) : s.data.toList.take (k + 1) = t.data.toList.take (k + 1) := by
  have he : s[k] = t[k] := by
    have : (s[k].toNat : Int) = t[k].toNat := by simpa using heq
    exact UInt8.toNat_inj.1 (by omega)
  have l1 : k < s.data.toList.length := by simpa using h1
  have l2 : k < t.data.toList.length := by simpa using h2
  rw [List.take_succ_eq_append_getElem l1, List.take_succ_eq_append_getElem l2, h]
  congr 2
theorem common_nil : ∀ (a b : List UInt8), (a = [] ∨ b = []) → common a b = 0
  | [], _, _ => by simp [common]
  | _ :: _, [], _ => by simp [common]
  | _ :: _, _ :: _, h => by simp at h
theorem common_end {s t : ByteArray} {k : Nat} (h : s.data.toList.take k = t.data.toList.take k) (h1 : k ≤ s.size) (h2 : k ≤ t.size) (he : s.size ≤ k ∨ t.size ≤ k) : commonN s t = k := by
  unfold commonN
  rw [common_take _ _ k h (by simpa using h1) (by simpa using h2), common_nil]
  · rfl
  rcases he with e | e
  · exact .inl (List.drop_eq_nil_of_le (by simpa using e))
  · exact .inr (List.drop_eq_nil_of_le (by simpa using e))

set_option maxHeartbeats 1000000 in
theorem common_c (w : World) (s t : ByteArray) (hs : s.size ≤ 1000000000) (ht : t.size ≤ 1000000000) : Calls Tryz.prog 65 #[.string s, .string t] w fun e w' => e = .returned (.int .i64 (commonN s t)) ∧ ∃ n, w' = w.drewN n := by
  go_enter Tryz.func65, Tryz.ntmps65
  go_wp2
  · go_loopw [13] (fun i wr => ∃ k : Nat, k ≤ s.size ∧ k ≤ t.size ∧ i = .int .i64 k ∧ s.data.toList.take k = t.data.toList.take k ∧ ∃ n, wr = w.drewN n) (fun i _ => s.size + 1 - (intOf i).toNat)
    case atStart => exact ⟨0, Nat.zero_le _, Nat.zero_le _, rfl, rfl, 0, rfl⟩
    case round =>
      obtain ⟨k, hk, hk', rfl, hall, nw, rfl⟩ := hrel
      have HA := Lib.hid hall
      clear hall
      by_cases hlt : k < t.size
      · have h1 : k < s.size := by omega
        have h2 : k < t.size := by omega
        go_wp2_with fail
        go_quiet (fail)
        go_wp2
        · have hne : ((s[k].toNat : Int) != (t[k].toNat : Int)) = true := by assumption
          go_ret
          exact ⟨by rw [common_stop HA.out h1 h2 hne]; rfl, _, World.drewN_drewN ..⟩
        · have heq : ((s[k].toNat : Int) != (t[k].toNat : Int)) = false := by assumption
          have hs := common_step HA.out h1 h2 heq
          go_roundw
          case rel => exact ⟨k + 1, by omega, by omega, by go_num, hs, _, rfl⟩
          case measure => simp [intOf]; omega
      · go_wp2
        go_ret
        exact ⟨by rw [common_end HA.out (by omega) (by omega) (by omega), show k = t.size by omega]; rfl, _, rfl⟩
  · go_loopw [13] (fun i wr => ∃ k : Nat, k ≤ s.size ∧ k ≤ t.size ∧ i = .int .i64 k ∧ s.data.toList.take k = t.data.toList.take k ∧ ∃ n, wr = w.drewN n) (fun i _ => s.size + 1 - (intOf i).toNat)
    case atStart => exact ⟨0, Nat.zero_le _, Nat.zero_le _, rfl, rfl, 0, rfl⟩
    case round =>
      obtain ⟨k, hk, hk', rfl, hall, nw, rfl⟩ := hrel
      have HA := Lib.hid hall
      clear hall
      by_cases hlt : k < s.size
      · have h1 : k < s.size := by omega
        have h2 : k < t.size := by omega
        go_wp2_with fail
        go_quiet (fail)
        go_wp2
        · have hne : ((s[k].toNat : Int) != (t[k].toNat : Int)) = true := by assumption
          go_ret
          exact ⟨by rw [common_stop HA.out h1 h2 hne]; rfl, _, World.drewN_drewN ..⟩
        · have heq : ((s[k].toNat : Int) != (t[k].toNat : Int)) = false := by assumption
          have hs := common_step HA.out h1 h2 heq
          go_roundw
          case rel => exact ⟨k + 1, by omega, by omega, by go_num, hs, _, rfl⟩
          case measure => simp [intOf]; omega
      · go_wp2
        go_ret
        exact ⟨by rw [common_end HA.out (by omega) (by omega) (by omega), show k = s.size by omega]; rfl, _, rfl⟩

def flagN (leaf odd : Bool) : Int := (if leaf then 2 else 0) + (if odd then 1 else 0)
theorem flag_c (w : World) (leaf odd : Bool) : Calls Tryz.prog 151 #[.bool leaf, .bool odd] w fun e w' => e = .returned (.int .u8 (flagN leaf odd)) ∧ w' = w := by
  cases leaf <;> cases odd
  all_goals
    go_enter Tryz.func151, Tryz.ntmps151
    go_wp2
    go_ret
    exact ⟨rfl, rfl⟩
end
end Go.Proofs.YtolhikjjchfnjaaGreatDoor
/- nibble: Put (of a path). -/
namespace Go.Proofs.YtolhikjjchfnjaaGreatDoor
section
open Go Go.RowKit
set_option linter.unusedSimpArgs false
set_option linter.unusedVariables false
def flagB (leaf odd : Bool) : UInt8 := (if leaf then 2 else 0) + (if odd then 1 else 0)
theorem flagB_N (leaf odd : Bool) : flagN leaf odd = ((flagB leaf odd).toNat : Int) := by cases leaf <;> cases odd <;> rfl
def oddB (p : ByteArray) : Bool := p.size % 2 == 1
def frontL (p : ByteArray) (leaf : Bool) : List UInt8 := flagB leaf (oddB p) :: (if oddB p then [] else [0])
def putB (p : ByteArray) (leaf : Bool) : ByteArray := pairsB ⟨(frontL p leaf ++ p.data.toList).toArray⟩
set_option maxRecDepth 100000 in
set_option maxHeartbeats 1000000 in
theorem odd_c (w : World) (p : ByteArray) (b : Nat) (hp : w.cell? ⟨b, 0, none⟩ = some (.string p)) : Calls Tryz.prog 150 #[.pointer (some ⟨b, 0, none⟩)] w fun e w' => e = .returned (.bool (oddB p)) ∧ w = w' := by
  have e : oddB p = decide ((p.size : Int) % 2 = 1) := by
    unfold oddB
    by_cases h : p.size % 2 = 1
    · have h2 : (p.size : Int) % 2 = 1 := by omega
      simp [h, h2]
    · have h2 : ¬ (p.size : Int) % 2 = 1 := by omega
      simp only [h2, decide_false]; simp; omega
  go_enter Tryz.func150, Tryz.ntmps150
  go_wp2_with fail
  go_ret
  exact ⟨by rw [e]; rfl, rfl⟩
theorem Tryz.run_lit1 (w : World) (b : UInt8) : (convert 63 9 (.slice (some ⟨w.heap.size, 0, none⟩) 1 1)).run Tryz.prog (w.alloc (.cells #[.int .u8 (b.toNat : Int)] 5)) = .ok (.string ⟨#[b]⟩) (w.alloc (.cells #[.int .u8 (b.toNat : Int)] 5)) := by
  refine run_convert_bytes_back (w.alloc (.cells #[.int .u8 (b.toNat : Int)] 5)) _ _ _ ⟨w.heap.size, 0, none⟩ 1 [b] Tryz.uBytes Tryz.uU8 Tryz.uStr (fun j hj => ?_)
  have h0 : j = 0 := by simp at hj; omega
  subst h0
  exact (Blk.new w _).cell (by rfl)
set_option maxRecDepth 100000 in
set_option maxHeartbeats 1000000 in
theorem put_c (w : World) (p : ByteArray) (leaf : Bool) (hs : p.size ≤ 900000) (hv : validN p = true) : Calls Tryz.prog 120 #[.string p, .bool leaf] w fun e w' => e = .returned (.tuple #[.string (putB p leaf), .bool true]) ∧ Ext w w' := by
  have HV := Lib.hid hv
  clear hv
  go_enter Tryz.func120, Tryz.ntmps120
  go_wp2_with fail
  refine (valid_c _ p (by omega)).mono ?_
  rintro e w1 ⟨rfl, hw1⟩
  rw [HV.out]
  obtain ⟨g, hg⟩ : ∃ g, g = w.heap.size := ⟨_, rfl⟩
  have q1 : w1.cell? ⟨g, 0, none⟩ = some (.string p) := by rw [hw1, hg]; exact (Blk.new w _).cell (by rfl)
  have hE : Ext w w1 := by rw [hw1]; exact (ExtR w).alloc _
  rw [← hg]
  have HE := Lib.hid hE
  clear hE hw1 hg
  go_wp2_with fail
  refine (odd_c w1 p g q1).mono ?_
  rintro e w2 ⟨rfl, rfl⟩
  obtain ⟨od, hod⟩ : ∃ o, o = oddB p := ⟨_, rfl⟩
  rw [← hod]
  have HOD := Lib.hid hod
  clear hod
  go_wp2_with fail
  refine (flag_c w1 leaf od).mono ?_
  rintro e w2 ⟨rfl, rfl⟩
  rw [flagB_N]
  obtain ⟨fb, hfb⟩ : ∃ f, f = flagB leaf od := ⟨_, rfl⟩
  rw [← hfb]
  have hcv := Tryz.run_lit1 w2 fb
  have hq3 := cell_ext q1 ((ExtR w2).alloc (.cells #[Value.int .u8 (fb.toNat : Int)] 5))
  have hE3 : Ext w (w2.alloc (.cells #[Value.int .u8 (fb.toNat : Int)] 5)) := HE.out.alloc _
  have HE3 := Lib.hid hE3
  have HFB := Lib.hid hfb
  clear hE3 HE hfb q1
  go_wp2_with fail
  clear hcv
  obtain ⟨w3, hw3⟩ : ∃ x, x = w2.alloc (.cells #[Value.int .u8 (fb.toNat : Int)] 5) := ⟨_, rfl⟩
  rw [← hw3] at hq3 HE3 ⊢
  clear hw3
  refine (odd_c w3 p g hq3).mono ?_
  rintro e w4 ⟨rfl, rfl⟩
  rw [← HOD.out]
  cases od with
  | true =>
    go_wp2_with fail
    have hps : ((⟨#[fb]⟩ : ByteArray) ++ p).size ≤ 1000000 := by rw [ByteArray.size_append]; show 1 + p.size ≤ _; omega
    refine (pairs_c _ _ hps).mono ?_
    rintro e w5 ⟨rfl, hE5⟩
    have hX := HE3.out.trans hE5
    have hput : pairsB ((⟨#[fb]⟩ : ByteArray) ++ p) = putB p leaf := by
      unfold putB frontL; rw [← HOD.out, ← HFB.out, if_pos rfl]
      congr 1
    rw [hput]
    go_wp2_with fail
    exact bodyPost_ret (v := .tuple #[.string (putB p leaf), .bool true]) (by kernel_rfl) rfl ⟨rfl, hX⟩
  | false =>
    go_wp2_with fail
    have hps : ((⟨#[fb]⟩ : ByteArray) ++ ⟨#[0]⟩ ++ p).size ≤ 1000000 := by rw [ByteArray.size_append, ByteArray.size_append]; show 1 + 1 + p.size ≤ _; omega
    refine (pairs_c _ _ hps).mono ?_
    rintro e w5 ⟨rfl, hE5⟩
    have hX := HE3.out.trans hE5
    have hput : pairsB ((⟨#[fb]⟩ : ByteArray) ++ ⟨#[0]⟩ ++ p) = putB p leaf := by
      unfold putB frontL; rw [← HOD.out, ← HFB.out, if_neg (by decide)]
      congr 1
    rw [hput]
    go_wp2_with fail
    exact bodyPost_ret (v := .tuple #[.string (putB p leaf), .bool true]) (by kernel_rfl) rfl ⟨rfl, hX⟩
end
end Go.Proofs.YtolhikjjchfnjaaGreatDoor
/- node: a node as a value; path. -/
namespace Go.Proofs.YtolhikjjchfnjaaGreatDoor
section
open Go Go.RowKit
set_option linter.unusedSimpArgs false
set_option linter.unusedVariables false
structure NodeT where
  kind : Nat
  path : ByteArray
  value : ByteArray
  refs : List ByteArray
def NodeT.cells (n : NodeT) : List Value := .int .i64 (n.kind : Int) :: .string n.path :: .string n.value :: n.refs.map Value.string
def NodeT.V (n : NodeT) : Value := .agg n.cells.toArray
def NodeT.pathOk (n : NodeT) (least : Nat) : Bool := decide (least ≤ n.path.size) && decide (n.path.size ≤ 12) && validN n.path
theorem NodeT.cells_len (n : NodeT) (h : n.refs.length = 16) : n.cells.length = 19 := by simp [NodeT.cells, h]
set_option maxRecDepth 100000 in
set_option maxHeartbeats 1000000 in
theorem npath_c (w : World) (n : NodeT) (hr : n.refs.length = 16) (least : Nat) (hs : n.path.size ≤ 1000000) : Calls Tryz.prog 117 #[n.V, .int .i64 least] w fun e w' => e = .returned (.bool (n.pathOk least)) ∧ Ext w w' := by
  obtain ⟨k, p, v, rs⟩ := n
  have hl : (NodeT.cells ⟨k, p, v, rs⟩).length = 19 := NodeT.cells_len _ hr
  simp only at hr hs
  have HL := Lib.hid hl
  clear hl
  unfold NodeT.V
  have e1 : (NodeT.cells ⟨k, p, v, rs⟩)[1]? = some (.string p) := rfl
  have hres : ∀ b : Bool, b = (NodeT.pathOk ⟨k, p, v, rs⟩ least) → Ending.returned (.bool b) = Ending.returned (.bool (NodeT.pathOk ⟨k, p, v, rs⟩ least)) := fun b h => by rw [h]
  by_cases h1 : least ≤ p.size
  · have c1 : (least : Int) ≤ (p.size : Int) := by omega
    by_cases h2 : p.size ≤ 12
    · have c2 : (p.size : Int) ≤ 12 := by omega
      go_enter Tryz.func117, Tryz.ntmps117
      go_wp2_with fail
      refine (valid_c _ p (by omega)).mono ?_
      rintro e w1 ⟨rfl, hw1⟩
      have HE : Hid (Ext w w1) := Lib.hid (by rw [hw1]; exact (ExtR w).alloc _)
      clear hw1
      go_wp2_with fail
      go_ret
      exact ⟨hres _ (by simp [NodeT.pathOk, h1, h2]), HE.out⟩
    · have c2 : ¬ (p.size : Int) ≤ 12 := by omega
      go_enter Tryz.func117, Tryz.ntmps117
      go_wp2_with fail
      go_ret
      exact ⟨hres false (by simp [NodeT.pathOk, h2]), (ExtR w).alloc _⟩
  · have c1 : ¬ (least : Int) ≤ (p.size : Int) := by omega
    go_enter Tryz.func117, Tryz.ntmps117
    go_wp2_with fail
    go_ret
    exact ⟨hres false (by simp [NodeT.pathOk, h1]), (ExtR w).alloc _⟩
end
end Go.Proofs.YtolhikjjchfnjaaGreatDoor
/- A range over a function, as a law over any program: the iterator's contract, the loop's body, what follows. -/
namespace Go.Proofs.YtolhikjjchfnjaaGreatDoor
section
open Go Go.RowKit
set_option linter.unusedSimpArgs false
set_option linter.unusedVariables false

/-- A predicate that rests on the blocks of its set alone. -/
structure Supp (C : BSet → World → Prop) : Prop where
  lt : ∀ D W, C D W → ∀ b, D b → b < W.heap.size
  st : ∀ D W W', C D W → W.heap.size ≤ W'.heap.size → (∀ b, D b → W'.heap[b]? = W.heap[b]?) → C D W'

theorem Supp.keeps {C : BSet → World → Prop} (h : Supp C) {D F : BSet} {W W' : World} (hc : C D W) (k : Keeps F W W') (hd : ∀ b, D b → ¬ F b) : C D W' :=
  h.st D W W' hc k.size fun b hb => k.block b (h.lt D W hc b hb) (hd b hb)

/-- What a call of yield owes to the iterator. -/
def YieldOwes (P : Program) (l : Nat) (args : Array Value) (D : BSet) (W : World) (Ct Cf : BSet → World → Prop) : Prop :=
  YieldAt Fence.wide 0 P l args W fun e W' => ∃ D' : BSet, Keeps D W W' ∧ (∀ b, D' b → D b ∨ W.heap.size ≤ b) ∧
    ((e = .returned (.bool true) ∧ Ct D' W') ∨ (e = .returned (.bool false) ∧ Cf D' W'))

/-- How an iterator leaves. -/
def IterPost (W : World) (M D O : BSet) (N : Nat) (C Cx SE : Nat → BSet → World → Prop) (e : Ending) (W' : World) : Prop :=
  (∃ v, e = .returned v) ∧ ∃ D' O' : BSet, Keeps (fun b => D b ∨ M b) W W' ∧ (∀ b, D' b → D b ∨ W.heap.size ≤ b) ∧ (∀ b, O' b → O b ∨ W.heap.size ≤ b) ∧ (∀ b, D' b → ¬ O' b) ∧
    ((C N D' W' ∧ SE N O' W') ∨ ∃ k, k ≤ N ∧ 0 < k ∧ Cx k D' W' ∧ SE k O' W')

/-- The iterator's contract: it hands the N values to yield one by one, until yield says no. S: what it rests on at the start; SE k: what it leaves behind k values. -/
def IterC (P : Program) (gf : FuncId) (lb : Array Value) (N : Nat) (vals : Nat → Array Value) (M : BSet) (S : BSet → World → Prop) (SE : Nat → BSet → World → Prop) : Prop :=
  ∀ (l : Nat) (C : Nat → BSet → World → Prop) (Cx : Nat → BSet → World → Prop), (∀ k, Supp (C k)) → (∀ k, Supp (Cx k)) →
    ∀ D O W, (∀ k D' W', k < N → C k D' W' → Keeps (fun b => D b ∨ M b) W W' → YieldOwes P l (vals k) D' W' (C (k + 1)) (Cx (k + 1))) →
      C 0 D W → S O W → (∀ b, D b → ¬ O b) →
      CallsIn Fence.wide 0 P gf (#[.func (.yield l) #[] #[]] ++ lb) W (IterPost W M D O N C Cx SE)

/-- What is asked where a round's body is left. -/
def RoundQ (D : BSet) (W : World) (Ct : BSet → World → Prop) (Cj : Code → BSet → World → Prop) : Exit → Act → World → Prop
  | .normal, _, W' => ∃ D' : BSet, Keeps D W W' ∧ (∀ b, D' b → D b ∨ W.heap.size ≤ b) ∧ Ct D' W'
  | .ret, _, W' => ∃ D' : BSet, Keeps D W W' ∧ (∀ b, D' b → D b ∨ W.heap.size ≤ b) ∧ Cj .ret D' W'
  | .exit i, _, W' => ∃ D' : BSet, Keeps D W W' ∧ (∀ b, D' b → D b ∨ W.heap.size ≤ b) ∧ Cj (.exit i) D' W'
  | _, _, _ => False

def noDefer (ops : Array Oper) : Bool := ops.toList.all fun o => match o.op with | .defer _ => false | _ => true

/-- A region that draws its order, and only reads, in a round's frame too: one walk in the text's order. -/
theorem wpIn_region_quiet_r {F : Fence} {n : Nat} {P : Program} {id : Nat} {Q : Exit → Act → World → Prop} {a : Act} {w : World} {l : List Oper} (hm : P.follows .mixedOrders = true) (hB : Region.lexB .any l.toArray = true) (hnd : noDefer l.toArray = true)
    (h : wpQuietIn F n P l.toArray (fun w' => ∃ n, w' = w.drewN n) (fun a' => ∀ w', (∃ n, w' = w.drewN n) → Q .normal a' w') l a) : (Code.region id l.toArray true).wpIn F n P Q a w := by
  have hnd' : ∀ (i : Nat) (o : Oper), l.toArray[i]? = some o → ∀ c, o.op ≠ .defer c := by
    intro i o ho c hc
    unfold noDefer at hnd
    rw [List.all_eq_true] at hnd
    have := hnd o (by simpa using List.mem_of_getElem? (by simpa using ho))
    rw [hc] at this; simp at this
  have step : ∀ {o : Oper} {a : Act} {K : Act → Prop} {K' : Act → World → Prop} {Q' : Exit → Act → World → Prop} {w1 : World} (C : World → Prop), (∀ c, o.op ≠ .defer c) → C w1 → (∀ a w', C w' → K a → K' a w') →
      o.askedIn F P a C → o.quietIn F n P a C K → o.wpIn F n P a w1 K' Q' := by
    intro o a K K' Q' w1 C hd hw h ha hh
    obtain ⟨v, h1, h2⟩ := hh
    have h3 := h1 w1 hw
    have hsem : o.semAt F.round a.eval = execOp a.eval o := by
      cases hr : F.round with
      | none => rfl
      | some l => exact Oper.semAt_some l _ o hd
    unfold Oper.quietAtIn at h3
    unfold Oper.wpIn
    refine ⟨ha w1 hw, ?_⟩
    rw [hsem]
    generalize (execOp a.eval o).run P w1 = r at *
    cases r with
    | ok x w' =>
      cases x <;> simp only [Oper.quietUponIn] at h3 <;> simp only [Oper.uponIn]
      case value u =>
        obtain ⟨e1, e2⟩ := h3
        rw [e1, e2]
        exact h _ _ hw h2
      case skip =>
        obtain ⟨e1, e2⟩ := h3
        rw [e1, ← e2]
        exact h _ _ hw h2
      case enter f args =>
        obtain ⟨e1, hd, hc⟩ := h3
        rw [e1]
        exact ⟨hd, hc.mono fun e w'' ⟨he, hw''⟩ => by subst he; exact h _ _ hw'' h2⟩
    | halt x w' => simp only [Oper.quietUponIn] at h3
  have any : ∀ (C : World → Prop) {Q1 : Act → Prop} (hQ : ∀ a w, C w → Q1 a → Q .normal a w) (fuel : Nat) (listed : Array Bool) (a : Act) (w1 : World), C w1 →
      wpAnyQIn F n P .any l.toArray C Q1 fuel listed a → wpAnyIn F n P .any l.toArray Q fuel listed a w1 := by
    intro C Q1 hQ fuel
    induction fuel with
    | zero => exact fun _ _ _ hw h => ⟨h.1, hQ _ _ hw h.2⟩
    | succ fuel ih =>
      intro listed a w1 hw h
      refine ⟨fun h0 => hQ _ _ hw (h.1 h0), fun i hi => ?_⟩
      have hh := h.2 i hi
      unfold qOpIn at hh
      unfold wpOpIn
      split
      · rename_i ho; simp only [ho] at hh; exact ih _ _ _ hw hh
      · rename_i o ho
        simp only [ho] at hh
        obtain ⟨ha, hh⟩ := hh
        split
        · rename_i hw'; simp only [hw', if_true] at hh; exact step C (hnd' i o ho) hw (fun a' w' hw'' => ih _ a' w' hw'') ha hh
        · rename_i hw'; simp only [hw'] at hh; exact ⟨ha w1 hw, ih _ _ _ hw hh⟩
  simp only [Region.lexB, Bool.and_eq_true] at hB
  refine wpIn_region_any hm (any (fun w' => ∃ n, w' = w.drewN n) (Q1 := fun a' => ∀ w', (∃ n, w' = w.drewN n) → Q .normal a' w') (fun _ w' hw' h => h w' hw') _ _ _ _ ⟨1, rfl⟩ ?_)
  have := wpAnyQIn_lex (F := F) (n := n) (C := fun w' => ∃ n, w' = w.drewN n) (md := .any) hB.1 l.toArray.toList 0 (Array.replicate l.toArray.size false) a (by simp) (by simpa using hB.2) (by simpa using h)
  simpa using this

theorem fold2 (p q : Tmp) (x y : Value) (t : List Value) : (#[p, q].zip #[x, y]).foldl (fun t (p, v) => t.setIfInBounds p v) t.toArray = ((t.set p x).set q y).toArray := by simp
theorem fold1 (p : Tmp) (x : Value) (t : List Value) : (#[p].zip #[x]).foldl (fun t (p, v) => t.setIfInBounds p v) t.toArray = (t.set p x).toArray := by simp

set_option maxHeartbeats 1000000 in
/-- THE LAW: 'for .. := range g { body }' in a plain frame. -/
theorem wp_range {P : Program} {g : Operand} {ps : Array Tmp} {assign body : Code} {Q : Exit → Act → World → Prop} {a : Act} {w : World}
    {gf : Nat} {lb : Array Value} (hg : a.eval g = .func (.func gf) #[] lb) (eg : ∀ args w, (callFunc gf args).run P w = .ok (.enter gf args) w)
    {N : Nat} {vals : Nat → Array Value} {M : BSet} {S : BSet → World → Prop} {SE : Nat → BSet → World → Prop} (IS : IterC P gf lb N vals M S SE)
    (hS : Supp S) (hps : ∀ k, (vals k).size = ps.size)
    (C : Nat → BSet → World → Prop) (Cj : Code → Nat → BSet → World → Prop) (hC : ∀ k, Supp (C k)) (hCj : ∀ c k, Supp (Cj c k))
    (D₀ O₀ : BSet) (h0 : C 0 D₀ w) (hS0 : S O₀ w) (hdis : ∀ b, D₀ b → ¬ O₀ b) (a₁ : Nat → Act)
    (hassign : ∀ (l k : Nat) (W : World) (K : Act → World → Prop), K (a₁ k) W →
      assign.wpIn (Fence.wide.inRound l) 0 P (Exit.then K (fun _ _ _ => False)) { tmps := (ps.zip (vals k)).foldl (fun t (p, v) => t.setIfInBounds p v) a.tmps, defers := [] } W)
    (hbody : ∀ (l k : Nat) (D : BSet) (W : World), k < N → C k D W → Keeps (fun b => D₀ b ∨ M b) w W → body.wpIn (Fence.wide.inRound l) 0 P (RoundQ D W (C (k + 1)) (fun c => Cj c (k + 1))) (a₁ k) W)
    (hdone : ∀ (D O : BSet) (W : World), Keeps (fun b => D₀ b ∨ M b) w W → C N D W → SE N O W → (∀ b, D b → ¬ O b) → (∀ b, D b → D₀ b ∨ w.heap.size ≤ b) → (∀ b, O b → O₀ b ∨ w.heap.size ≤ b) →
      Blk W w.heap.size (.deferred (some [])) → ¬ D w.heap.size → ¬ O w.heap.size →
      Q .normal { a with defers := { target := .collected w.heap.size, args := #[] } :: a.defers } W)
    (hstop : ∀ (c : Code) (k : Nat) (D O : BSet) (W : World), k ≤ N → 0 < k → Keeps (fun b => D₀ b ∨ M b) w W → Cj c k D W → SE k O W → (∀ b, D b → ¬ O b) → (∀ b, D b → D₀ b ∨ w.heap.size ≤ b) → (∀ b, O b → O₀ b ∨ w.heap.size ≤ b) →
      Blk W w.heap.size (.deferred (some [])) → ¬ D w.heap.size → ¬ O w.heap.size →
      c.wpIn Fence.wide 0 P Q { a with defers := { target := .collected w.heap.size, args := #[] } :: a.defers } W)
    (hSE : ∀ k, Supp (SE k)) :
    (Code.rangeFunc g ps assign body).wpIn Fence.wide 0 P Q a w := by
  refine wpIn_rangeFunc ?_
  intro fn _
  show ∃ l mark w₁ d w₁' f args w₂, (Instr.enterLoop fn a.tmps ps assign body none).run P w = _ ∧ _
  obtain ⟨rec, hrec⟩ : ∃ rec : LoopState → Option Code → Loop, rec = fun st pe => { state := st, pending := pe, fn, tmps := a.tmps, params := ps, assign, body, defers := w.heap.size } := ⟨_, rfl⟩
  obtain ⟨W1, hW1⟩ : ∃ W1, (w.alloc (.deferred (some []))).alloc (.loop (rec .ready none)) = W1 := ⟨_, rfl⟩
  have hL1 : Blk W1 (w.heap.size + 1) (.loop (rec .ready none)) := by
    rw [← hW1]; have := Blk.new (w.alloc (.deferred (some []))) (.loop (rec .ready none)); rwa [World.size_alloc] at this
  have hK1 : Blk W1 w.heap.size (.deferred (some [])) := by
    rw [← hW1]; exact (Blk.new w _).alloc _
  have hX1 : Ext w W1 := by rw [← hW1]; exact ((Keeps.refl _ w).alloc _).alloc _
  have hs1 : W1.heap.size = w.heap.size + 2 := by rw [← hW1]; simp
  have hD0 : ∀ b, D₀ b → b < w.heap.size := (hC 0).lt _ _ h0
  have hO0 : ∀ b, O₀ b → b < w.heap.size := hS.lt _ _ hS0
  refine ⟨w.heap.size + 1, [{ target := .collected w.heap.size, args := #[] }], W1, { target := .fn (.func gf) lb, args := #[.func (.yield (w.heap.size + 1)) #[] #[]] }, W1, gf,
    #[.func (.yield (w.heap.size + 1)) #[] #[]] ++ lb, W1, ?_, ?_, ?_, ?_, fun h => by simp [Fence.wide] at h, ?_⟩
  · rw [← hW1, hrec]; exact run_enterLoop_outer _ _ _ _ _
  · simp only [resolve, hg]
    simp [go_sem]
  · intro f' _; trivial
  · simp [invoke, go_sem, eg]
  · -- the consumer's invariant with the two blocks of book-keeping
    let CC : Nat → BSet → World → Prop := fun k D W => ∃ D' : BSet, C k D' W ∧ (∀ b, D b ↔ D' b ∨ b = w.heap.size + 1 ∨ b = w.heap.size) ∧ ¬ D' (w.heap.size + 1) ∧ ¬ D' w.heap.size ∧
      Blk W (w.heap.size + 1) (.loop (rec .ready none)) ∧ Blk W w.heap.size (.deferred (some []))
    let CX : Nat → BSet → World → Prop := fun k D W => ∃ (c : Code) (D' : BSet), Cj c k D' W ∧ (∀ b, D b ↔ D' b ∨ b = w.heap.size + 1 ∨ b = w.heap.size) ∧ ¬ D' (w.heap.size + 1) ∧ ¬ D' w.heap.size ∧
      Blk W (w.heap.size + 1) (.loop (rec .done (some c))) ∧ Blk W w.heap.size (.deferred (some []))
    have sCC : ∀ k, Supp (CC k) := fun k => ⟨fun D W ⟨D', h1, h2, _, _, h3, h4⟩ b hb => by
        rcases (h2 b).1 hb with h | rfl | rfl
        · exact (hC k).lt _ _ h1 b h
        · exact h3.lt
        · exact h4.lt,
      fun D W W' ⟨D', h1, h2, h5, h6, h3, h4⟩ hs hb => ⟨D', (hC k).st _ _ _ h1 hs (fun b h => hb b ((h2 b).2 (.inl h))), h2, h5, h6,
        (hb _ ((h2 _).2 (.inr (.inl rfl)))).trans h3, (hb _ ((h2 _).2 (.inr (.inr rfl)))).trans h4⟩⟩
    have sCX : ∀ k, Supp (CX k) := fun k => ⟨fun D W ⟨c, D', h1, h2, _, _, h3, h4⟩ b hb => by
        rcases (h2 b).1 hb with h | rfl | rfl
        · exact (hCj c k).lt _ _ h1 b h
        · exact h3.lt
        · exact h4.lt,
      fun D W W' ⟨c, D', h1, h2, h5, h6, h3, h4⟩ hs hb => ⟨c, D', (hCj c k).st _ _ _ h1 hs (fun b h => hb b ((h2 b).2 (.inl h))), h2, h5, h6,
        (hb _ ((h2 _).2 (.inr (.inl rfl)))).trans h3, (hb _ ((h2 _).2 (.inr (.inr rfl)))).trans h4⟩⟩
    have key := IS (w.heap.size + 1) CC CX sCC sCX (fun b => D₀ b ∨ b = w.heap.size + 1 ∨ b = w.heap.size) O₀ W1 ?_
      ⟨D₀, (hC 0).keeps h0 hX1 (fun _ _ h => h), fun _ => Iff.rfl, fun h => by have := hD0 _ h; omega, fun h => by have := hD0 _ h; omega, hL1, hK1⟩
      (hS.keeps hS0 hX1 (fun _ _ h => h)) (fun b hb ho => by
        have := hO0 b ho
        rcases hb with h | rfl | rfl
        · exact hdis b h ho
        · omega
        · omega)
    · refine CallsIn.mono key ?_
      rintro e W' ⟨⟨v, rfl⟩, D', O', hk, hD', hO', hdis', hcase⟩
      have hkw : Keeps (fun b => D₀ b ∨ M b) w W' := (hX1.mono (fun _ _ h => h.elim)).trans' hk (fun x hx h => by
          rcases h with (h | rfl | rfl) | h
          · exact .inl h
          · omega
          · omega
          · exact .inr h)
      have hOo : ∀ b, O' b → O₀ b ∨ w.heap.size ≤ b := fun b hb => (hO' b hb).imp id (fun h => by omega)
      rcases hcase with ⟨⟨D'', h1, h2, h5, h6, h3, h4⟩, hse⟩ | ⟨k, hk1, hk2, ⟨c, D'', h1, h2, h5, h6, h3, h4⟩, hse⟩
      · have hO1 : ¬ O' (w.heap.size + 1) := hdis' _ ((h2 _).2 (.inr (.inl rfl)))
        have hO2 : ¬ O' w.heap.size := hdis' _ ((h2 _).2 (.inr (.inr rfl)))
        obtain ⟨ox, he⟩ : ∃ ox, (Instr.endLoop (w.heap.size + 1)).run P W' = .ok none (W'.putObj (w.heap.size + 1) ox) := ⟨_, (run_endLoop (r := rec .ready none) h3 (by rw [hrec]; simp)).trans (by rw [hrec])⟩
        have hkl := Keeps.onePut W' (w.heap.size + 1) ox
        refine ⟨none, _, he, ?_⟩
        refine hdone D'' O' _ (hkw.trans' hkl (fun x hx e => by omega)) ((hC N).keeps h1 hkl (fun b hb e => h5 (e ▸ hb))) ((hSE N).keeps hse hkl (fun b hb e => hO1 (e ▸ hb)))
          (fun b hb ho => hdis' b ((h2 b).2 (.inl hb)) ho) (fun b hb => ?_) hOo (h4.put_other (by omega) _) h6 hO2
        rcases hD' b ((h2 b).2 (.inl hb)) with (h | rfl | rfl) | h
        · exact .inl h
        · exact absurd hb h5
        · exact absurd hb h6
        · exact .inr (by omega)
      · have hO1 : ¬ O' (w.heap.size + 1) := hdis' _ ((h2 _).2 (.inr (.inl rfl)))
        have hO2 : ¬ O' w.heap.size := hdis' _ ((h2 _).2 (.inr (.inr rfl)))
        obtain ⟨ox, he⟩ : ∃ ox, (Instr.endLoop (w.heap.size + 1)).run P W' = .ok (some c) (W'.putObj (w.heap.size + 1) ox) := ⟨_, (run_endLoop (r := rec .done (some c)) h3 (by rw [hrec]; simp)).trans (by rw [hrec])⟩
        have hkl := Keeps.onePut W' (w.heap.size + 1) ox
        refine ⟨some c, _, he, ?_⟩
        refine hstop c k D'' O' _ hk1 hk2 (hkw.trans' hkl (fun x hx e => by omega)) ((hCj c k).keeps h1 hkl (fun b hb e => h5 (e ▸ hb))) ((hSE k).keeps hse hkl (fun b hb e => hO1 (e ▸ hb)))
          (fun b hb ho => hdis' b ((h2 b).2 (.inl hb)) ho) (fun b hb => ?_) hOo (h4.put_other (by omega) _) h6 hO2
        rcases hD' b ((h2 b).2 (.inl hb)) with (h | rfl | rfl) | h
        · exact .inl h
        · exact absurd hb h5
        · exact absurd hb h6
        · exact .inr (by omega)
    · rintro k D W hk ⟨D', h1, h2, h5, h6, h3, h4⟩ hkk
      have hkw : Keeps (fun b => D₀ b ∨ M b) w W := (hX1.mono (fun _ _ h => h.elim)).trans' hkk (fun x hx h => by
          rcases h with (h | rfl | rfl) | h
          · exact .inl h
          · omega
          · omega
          · exact .inr h)
      have hD1 : D (w.heap.size + 1) := (h2 _).2 (.inr (.inl rfl))
      refine ⟨_, _, _, _, run_yield h3 (by rw [hrec]; exact hps k), ?_⟩
      refine roundIn_of_wpIn trivial ?_
      rw [show (rec .ready none).tmps = a.tmps from by rw [hrec], show (rec .ready none).params = ps from by rw [hrec], show (rec .ready none).assign = assign from by rw [hrec], show (rec .ready none).body = body from by rw [hrec]]
      refine hassign _ k W _ ?_
      refine ⟨_, run_beginRound h3 (by rw [hrec]), ?_⟩
      have hkb : Keeps (fun b => b = w.heap.size + 1) W (W.putObj (w.heap.size + 1) (.loop { rec .ready none with state := .busy })) := Keeps.onePut _ _ _
      have hsz : w.heap.size ≤ W.heap.size := by have := h4.lt; omega
      refine Code.wpIn_mono ?_ (hbody (w.heap.size + 1) k D' _ hk ((hC k).keeps h1 hkb (fun b hb e => h5 (e ▸ hb))) (hkw.trans' hkb (fun x hx e => by omega)))
      have fin : ∀ (j : Option Code) (D'' : BSet) (W' : World), Keeps D' (W.putObj (w.heap.size + 1) (.loop { rec .ready none with state := .busy })) W' →
          (∀ b, D'' b → D' b ∨ (W.putObj (w.heap.size + 1) (.loop { rec .ready none with state := .busy })).heap.size ≤ b) →
          (Instr.endRound (w.heap.size + 1) j).run P W' = .ok (.bool j.isNone) (W'.putObj (w.heap.size + 1) (.loop (rec (if j.isNone then .ready else .done) j))) ∧
          Keeps D W (W'.putObj (w.heap.size + 1) (.loop (rec (if j.isNone then .ready else .done) j))) ∧
          Keeps (fun b => b = w.heap.size + 1) W' (W'.putObj (w.heap.size + 1) (.loop (rec (if j.isNone then .ready else .done) j))) ∧
          (∀ b, (D'' b ∨ b = w.heap.size + 1 ∨ b = w.heap.size) → D b ∨ W.heap.size ≤ b) ∧ ¬ D'' (w.heap.size + 1) ∧ ¬ D'' w.heap.size ∧
          Blk (W'.putObj (w.heap.size + 1) (.loop (rec (if j.isNone then .ready else .done) j))) (w.heap.size + 1) (.loop (rec (if j.isNone then .ready else .done) j)) ∧
          Blk (W'.putObj (w.heap.size + 1) (.loop (rec (if j.isNone then .ready else .done) j))) w.heap.size (.deferred (some [])) := by
        intro j D'' W' hK hD''
        have hl : Blk W' (w.heap.size + 1) (.loop { rec .ready none with state := .busy }) := (h3.put_same _).keeps hK h5
        have hd : Blk W' w.heap.size (.deferred (some [])) := (h4.put_other (by omega) _).keeps hK h6
        have hke : Keeps (fun b => b = w.heap.size + 1) W' (W'.putObj (w.heap.size + 1) (.loop (rec (if j.isNone then .ready else .done) j))) := Keeps.onePut _ _ _
        rw [World.putObj_size] at hD''
        have hlt3 := h3.lt
        have hlt4 := h4.lt
        refine ⟨?_, ?_, hke, ?_, ?_, ?_, ?_, ?_⟩
        · rw [run_endRound j hl, hrec]
        · exact ((hkb.mono (fun x _ e => e ▸ hD1)).trans' hK (fun x hx h => (h2 x).2 (.inl h))).trans' hke (fun x hx e => e ▸ hD1)
        · rintro b (h | rfl | rfl)
          · exact (hD'' b h).imp (fun h => (h2 b).2 (.inl h)) id
          · exact .inl hD1
          · exact .inl ((h2 _).2 (.inr (.inr rfl)))
        · intro h; rcases hD'' _ h with h | h
          · exact h5 h
          · omega
        · intro h; rcases hD'' _ h with h | h
          · exact h6 h
          · omega
        · exact hl.put_same _
        · exact hd.put_other (by omega) _
      intro e a' W' hq
      cases e with
      | normal =>
        obtain ⟨D'', hK, hD'', hc⟩ := hq
        obtain ⟨f1, f2, f3, f4, f5, f6, f7, f8⟩ := fin none D'' W' hK hD''
        exact ⟨_, _, f1, fun b => D'' b ∨ b = w.heap.size + 1 ∨ b = w.heap.size, f2, f4, .inl ⟨rfl, D'', (hC _).keeps hc f3 (fun b hb e => f5 (e ▸ hb)), fun _ => Iff.rfl, f5, f6, f7, f8⟩⟩
      | ret =>
        obtain ⟨D'', hK, hD'', hc⟩ := hq
        obtain ⟨f1, f2, f3, f4, f5, f6, f7, f8⟩ := fin (some .ret) D'' W' hK hD''
        exact ⟨_, _, f1, fun b => D'' b ∨ b = w.heap.size + 1 ∨ b = w.heap.size, f2, f4, .inr ⟨rfl, .ret, D'', (hCj _ _).keeps hc f3 (fun b hb e => f5 (e ▸ hb)), fun _ => Iff.rfl, f5, f6, f7, f8⟩⟩
      | exit i =>
        obtain ⟨D'', hK, hD'', hc⟩ := hq
        obtain ⟨f1, f2, f3, f4, f5, f6, f7, f8⟩ := fin (some (.exit i)) D'' W' hK hD''
        exact ⟨_, _, f1, fun b => D'' b ∨ b = w.heap.size + 1 ∨ b = w.heap.size, f2, f4, .inr ⟨rfl, .exit i, D'', (hCj _ _).keeps hc f3 (fun b hb e => f5 (e ▸ hb)), fun _ => Iff.rfl, f5, f6, f7, f8⟩⟩
      | goto t => exact hq.elim
      | panic ch => exact hq.elim
      | outgrown => exact hq.elim
end
end Go.Proofs.YtolhikjjchfnjaaGreatDoor
/- A range over a function whose iterator only extends memory: the iterator's contract, the caller's law. Over any program. -/
namespace Go.Proofs.YtolhikjjchfnjaaGreatDoor
section
open Go Go.RowKit
set_option linter.unusedSimpArgs false
set_option linter.unusedVariables false

/-- Stays as memory is extended. -/
def St (C : World → Prop) : Prop := ∀ W W', C W → Ext W W' → C W'

def YieldE (P : Program) (l : Nat) (args : Array Value) (W : World) (Ct Cf : World → Prop) : Prop :=
  YieldAt Fence.wide 0 P l args W fun e W' => (e = .returned (.bool true) ∧ Ct W') ∨ (e = .returned (.bool false) ∧ Cf W')

def IterPostE (N : Nat) (C Cx : Nat → World → Prop) (e : Ending) (W' : World) : Prop := (∃ v, e = .returned v) ∧ (C N W' ∨ ∃ k, k ≤ N ∧ 0 < k ∧ Cx k W')

/-- The iterator's contract: it hands the N values to yield one by one, until yield says no; S: what it rests on. -/
def IterE (P : Program) (gf : FuncId) (lb : Array Value) (N : Nat) (vals : Nat → Array Value) (S : World → Prop) : Prop :=
  ∀ (l : Nat) (C : Nat → World → Prop) (Cx : Nat → World → Prop), (∀ k, St (C k)) → (∀ k, St (Cx k)) → (∀ k W, C k W → S W) →
    ∀ W, (∀ k W', k < N → C k W' → YieldE P l (vals k) W' (C (k + 1)) (Cx (k + 1))) → C 0 W →
      CallsIn Fence.wide 0 P gf (#[.func (.yield l) #[] #[]] ++ lb) W (IterPostE N C Cx)

/-- What is asked where a round's body is left: the two blocks of book-keeping stay. -/
def RoundE (g : Nat) (W : World) (Ct : World → Prop) (Cj : Code → World → Prop) : Exit → Act → World → Prop
  | .normal, _, W' => Keeps (fun b => b ≠ g ∧ b ≠ g + 1) W W' ∧ Ct W'
  | .ret, _, W' => Keeps (fun b => b ≠ g ∧ b ≠ g + 1) W W' ∧ Cj .ret W'
  | .exit i, _, W' => Keeps (fun b => b ≠ g ∧ b ≠ g + 1) W W' ∧ Cj (.exit i) W'
  | _, _, _ => False

set_option maxHeartbeats 1000000 in
/-- THE LAW. g = w.heap.size and g + 1: the blocks of book-keeping. -/
theorem wp_rangeE {P : Program} {g : Operand} {ps : Array Tmp} {assign body : Code} {Q : Exit → Act → World → Prop} {a : Act} {w : World}
    {gf : Nat} {lb : Array Value} (hg : a.eval g = .func (.func gf) #[] lb) (eg : ∀ args w, (callFunc gf args).run P w = .ok (.enter gf args) w)
    {N : Nat} {vals : Nat → Array Value} {S : World → Prop} (IS : IterE P gf lb N vals S)
    (hps : ∀ k, (vals k).size = ps.size)
    (C : Nat → World → Prop) (Cj : Code → Nat → World → Prop) (hC : ∀ k, St (C k)) (hCj : ∀ c k, St (Cj c k)) (hS : ∀ k W, C k W → S W)
    (hup : ∀ k W o, C k W → C k (W.putObj w.heap.size o)) (hup1 : ∀ k W o, C k W → C k (W.putObj (w.heap.size + 1) o)) (hupj : ∀ c k W o, Cj c k W → Cj c k (W.putObj (w.heap.size + 1) o))
    (h0 : C 0 w) (a₁ : Nat → Act)
    (hassign : ∀ (l k : Nat) (W : World) (K : Act → World → Prop), K (a₁ k) W →
      assign.wpIn (Fence.wide.inRound l) 0 P (Exit.then K (fun _ _ _ => False)) { tmps := (ps.zip (vals k)).foldl (fun t (p, v) => t.setIfInBounds p v) a.tmps, defers := [] } W)
    (hbody : ∀ (l k : Nat) (W : World), k < N → C k W → w.heap.size + 1 < W.heap.size → body.wpIn (Fence.wide.inRound l) 0 P (RoundE w.heap.size W (C (k + 1)) (fun c => Cj c (k + 1))) (a₁ k) W)
    (hdone : ∀ (W : World), C N W → Blk W w.heap.size (.deferred (some [])) → Q .normal { a with defers := { target := .collected w.heap.size, args := #[] } :: a.defers } W)
    (hstop : ∀ (c : Code) (k : Nat) (W : World), k ≤ N → 0 < k → Cj c k W → Blk W w.heap.size (.deferred (some [])) →
      c.wpIn Fence.wide 0 P Q { a with defers := { target := .collected w.heap.size, args := #[] } :: a.defers } W) :
    (Code.rangeFunc g ps assign body).wpIn Fence.wide 0 P Q a w := by
  refine wpIn_rangeFunc ?_
  intro fn _
  show ∃ l mark w₁ d w₁' f args w₂, (Instr.enterLoop fn a.tmps ps assign body none).run P w = _ ∧ _
  obtain ⟨rec, hrec⟩ : ∃ rec : LoopState → Option Code → Loop, rec = fun st pe => { state := st, pending := pe, fn, tmps := a.tmps, params := ps, assign, body, defers := w.heap.size } := ⟨_, rfl⟩
  obtain ⟨W1, hW1⟩ : ∃ W1, (w.alloc (.deferred (some []))).alloc (.loop (rec .ready none)) = W1 := ⟨_, rfl⟩
  have hL1 : Blk W1 (w.heap.size + 1) (.loop (rec .ready none)) := by
    rw [← hW1]; have := Blk.new (w.alloc (.deferred (some []))) (.loop (rec .ready none)); rwa [World.size_alloc] at this
  have hK1 : Blk W1 w.heap.size (.deferred (some [])) := by
    rw [← hW1]; exact (Blk.new w _).alloc _
  have hX1 : Ext w W1 := by rw [← hW1]; exact ((Keeps.refl _ w).alloc _).alloc _
  refine ⟨w.heap.size + 1, [{ target := .collected w.heap.size, args := #[] }], W1, { target := .fn (.func gf) lb, args := #[.func (.yield (w.heap.size + 1)) #[] #[]] }, W1, gf,
    #[.func (.yield (w.heap.size + 1)) #[] #[]] ++ lb, W1, ?_, ?_, ?_, ?_, fun h => by simp [Fence.wide] at h, ?_⟩
  · rw [← hW1, hrec]; exact run_enterLoop_outer _ _ _ _ _
  · simp only [resolve, hg]
    simp [go_sem]
  · intro f' _; trivial
  · simp [invoke, go_sem, eg]
  · let CC : Nat → World → Prop := fun k W => C k W ∧ Blk W (w.heap.size + 1) (.loop (rec .ready none)) ∧ Blk W w.heap.size (.deferred (some []))
    let CX : Nat → World → Prop := fun k W => ∃ c, Cj c k W ∧ Blk W (w.heap.size + 1) (.loop (rec .done (some c))) ∧ Blk W w.heap.size (.deferred (some []))
    have key := IS (w.heap.size + 1) CC CX (fun k W W' ⟨h1, h2, h3⟩ e => ⟨hC k _ _ h1 e, h2.keeps e (fun h => h), h3.keeps e (fun h => h)⟩)
      (fun k W W' ⟨c, h1, h2, h3⟩ e => ⟨c, hCj c k _ _ h1 e, h2.keeps e (fun h => h), h3.keeps e (fun h => h)⟩) (fun k W h => hS k W h.1) W1 ?_ ⟨hC 0 _ _ h0 hX1, hL1, hK1⟩
    · refine CallsIn.mono key ?_
      rintro e W' ⟨⟨v, rfl⟩, hcase⟩
      rcases hcase with ⟨h1, h3, h4⟩ | ⟨k, hk1, hk2, c, h1, h3, h4⟩
      · obtain ⟨ox, he⟩ : ∃ ox, (Instr.endLoop (w.heap.size + 1)).run P W' = .ok none (W'.putObj (w.heap.size + 1) ox) := ⟨_, (run_endLoop (r := rec .ready none) h3 (by rw [hrec]; simp)).trans (by rw [hrec])⟩
        exact ⟨none, _, he, hdone _ (hup1 N _ _ h1) (h4.put_other (by omega) _)⟩
      · obtain ⟨ox, he⟩ : ∃ ox, (Instr.endLoop (w.heap.size + 1)).run P W' = .ok (some c) (W'.putObj (w.heap.size + 1) ox) := ⟨_, (run_endLoop (r := rec .done (some c)) h3 (by rw [hrec]; simp)).trans (by rw [hrec])⟩
        exact ⟨some c, _, he, hstop c k _ hk1 hk2 (hupj c k _ _ h1) (h4.put_other (by omega) _)⟩
    · rintro k W hk ⟨h1, h3, h4⟩
      refine ⟨_, _, _, _, run_yield h3 (by rw [hrec]; exact hps k), ?_⟩
      refine roundIn_of_wpIn trivial ?_
      rw [show (rec .ready none).tmps = a.tmps from by rw [hrec], show (rec .ready none).params = ps from by rw [hrec], show (rec .ready none).assign = assign from by rw [hrec], show (rec .ready none).body = body from by rw [hrec]]
      refine hassign _ k W _ ?_
      refine ⟨_, run_beginRound h3 (by rw [hrec]), ?_⟩
      have hb1 : C k (W.putObj (w.heap.size + 1) (.loop { rec .ready none with state := .busy })) := hup1 k _ _ h1
      refine Code.wpIn_mono ?_ (hbody (w.heap.size + 1) k _ hk hb1 (by rw [World.putObj_size]; exact h3.lt))
      have fin : ∀ (j : Option Code) (W' : World), Keeps (fun b => b ≠ w.heap.size ∧ b ≠ w.heap.size + 1) (W.putObj (w.heap.size + 1) (.loop { rec .ready none with state := .busy })) W' →
          (Instr.endRound (w.heap.size + 1) j).run P W' = .ok (.bool j.isNone) (W'.putObj (w.heap.size + 1) (.loop (rec (if j.isNone then .ready else .done) j))) ∧
          Blk (W'.putObj (w.heap.size + 1) (.loop (rec (if j.isNone then .ready else .done) j))) (w.heap.size + 1) (.loop (rec (if j.isNone then .ready else .done) j)) ∧
          Blk (W'.putObj (w.heap.size + 1) (.loop (rec (if j.isNone then .ready else .done) j))) w.heap.size (.deferred (some [])) := by
        intro j W' hK
        have hl : Blk W' (w.heap.size + 1) (.loop { rec .ready none with state := .busy }) := (h3.put_same _).keeps hK (fun h => h.2 rfl)
        have hd : Blk W' w.heap.size (.deferred (some [])) := (h4.put_other (by omega) _).keeps hK (fun h => h.1 rfl)
        refine ⟨?_, hl.put_same _, hd.put_other (by omega) _⟩
        rw [run_endRound j hl, hrec]
      intro e a' W' hq
      cases e with
      | normal =>
        obtain ⟨hK, hc⟩ := hq
        obtain ⟨f1, f2, f3⟩ := fin none W' hK
        exact ⟨_, _, f1, .inl ⟨rfl, hup1 _ _ _ hc, f2, f3⟩⟩
      | ret =>
        obtain ⟨hK, hc⟩ := hq
        obtain ⟨f1, f2, f3⟩ := fin (some .ret) W' hK
        exact ⟨_, _, f1, .inr ⟨rfl, .ret, hupj _ _ _ _ hc, f2, f3⟩⟩
      | exit i =>
        obtain ⟨hK, hc⟩ := hq
        obtain ⟨f1, f2, f3⟩ := fin (some (.exit i)) W' hK
        exact ⟨_, _, f1, .inr ⟨rfl, .exit i, hupj _ _ _ _ hc, f2, f3⟩⟩
      | goto t => exact hq.elim
      | panic ch => exact hq.elim
      | outgrown => exact hq.elim
end
end Go.Proofs.YtolhikjjchfnjaaGreatDoor
/- node: an element of an array that is a value; the refs that are not empty. -/
namespace Go.Proofs.YtolhikjjchfnjaaGreatDoor
section
open Go Go.RowKit
set_option linter.unusedSimpArgs false
set_option linter.unusedVariables false
/-- An element of one cell, of an array that is a value. -/
theorem run_index_one {P : Program} {T e : TypeId} {n : Nat} (hu : P.underlying T = some (.array n e)) (hs : (P.info? e).map (·.size) = some 1) (hag : ∀ w, (isAgg e).run P w = .ok false w) (cs : List Value) (k : Nat) (hk : k < n) (x : Value) (hx : cs[k]? = some x) (w : World) :
    (Instr.index T (.agg cs.toArray) (.int .i64 (k : Int))).run P w = .ok x w := by
  obtain ⟨i, hi, hz⟩ := Option.map_eq_some_iff.1 hs
  have hsz : (sizeOf e).run P w = .ok 1 w := by simp [sizeOf, typeInfo, hi, hz]
  have h1 : (0 : Int) ≤ (k : Int) ∧ (k : Int) < (n : Int) := by omega
  simp only [Instr.index, asIntOf, Sem.run_bind, Sem.run_pure, Result.andThen, run_underlying hu]
  rw [if_pos h1]
  simp only [Sem.run_bind, hsz, Result.andThen]
  simp [part, Sem.run_bind, hag, Result.andThen, hx, Sem.run_pure]
/-- The refs that are not empty, and their places. -/
def refsFrom : Nat → List ByteArray → List (Nat × ByteArray)
  | _, [] => []
  | i, r :: rs => if r.size = 0 then refsFrom (i + 1) rs else (i, r) :: refsFrom (i + 1) rs
def NodeT.refsL (n : NodeT) : List (Nat × ByteArray) := refsFrom 0 n.refs
theorem refsFrom_append : ∀ (a b : List ByteArray) (i : Nat), refsFrom i (a ++ b) = refsFrom i a ++ refsFrom (i + a.length) b
  | [], b, i => by simp [refsFrom]
  | x :: a, b, i => by
    have h := refsFrom_append a b (i + 1)
    simp only [List.cons_append, refsFrom, List.length_cons]
    rw [h, show i + 1 + a.length = i + (a.length + 1) by omega]
    split <;> simp
end
end Go.Proofs.YtolhikjjchfnjaaGreatDoor
/- node: refs$1, the iterator over the refs that are not empty. -/
namespace Go.Proofs.YtolhikjjchfnjaaGreatDoor
section
open Go Go.RowKit
set_option linter.unusedSimpArgs false
set_option linter.unusedVariables false
attribute [local go_sem] Oper.semAt_some
/-- A load whose answer is known, inside a fence. -/
theorem wpListIn_load_known {F : Fence} {n : Nat} {P : Program} {w : World} {ops : Array Oper} {rest : List Oper} {o : Oper} {a : Act} {Q : Exit → Act → World → Prop} (hg : o.guard = none) (t : TypeId) (x : Operand) (ho : o.op = .load t x) (v : Value) (p : Addr) (hx : a.eval x = .pointer (some p))
    (hr : (Instr.loadAt t (.pointer (some p))).run P w = .ok v w) (h : wpListIn F n P ops Q rest (a.put o.dst v) w) : wpListIn F n P ops Q (o :: rest) a w := by
  refine wpListIn_plain hg fun K hK' => ?_
  unfold Oper.wpIn
  refine ⟨?_, ?_⟩
  · simp [Oper.about, ho]
  · rw [Oper.semAt_plain F _ _ (by rw [ho]; intro c hc'; cases hc')]
    simp only [execOp, ho, hx, Sem.run_bind, hr, Result.andThen, Sem.run_pure]
    exact hK' _ _ h
theorem Tryz.uRefs : Tryz.prog.underlying 54 = some (.array 16 9) := by kernel_rfl
theorem Tryz.iRefs : (Tryz.prog.info? 54).map (·.size) = some 16 := by kernel_rfl
def NodeT.rv (n : NodeT) (k : Nat) : Array Value := #[.int .i64 (((n.refsL.getD k (0, ⟨#[]⟩)).1 : Nat) : Int), .string (n.refsL.getD k (0, ⟨#[]⟩)).2]
def RfRel (W : World) (b : Nat) (n : NodeT) (C : Nat → World → Prop) (v : Value) (wr : World) : Prop := ∃ i : Nat, i ≤ 16 ∧ v = .int .i64 i ∧ C (refsFrom 0 (n.refs.take i)).length wr
theorem refs_step (n : NodeT) {i : Nat} {r : ByteArray} (h : n.refs[i]? = some r) : refsFrom 0 (n.refs.take (i + 1)) = refsFrom 0 (n.refs.take i) ++ (if r.size = 0 then [] else [(i, r)]) := by
  have hl := (List.getElem?_eq_some_iff.1 h).1
  rw [List.take_add_one, h, Option.toList_some, refsFrom_append]
  have : (n.refs.take i).length = i := by simp; omega
  simp [refsFrom, this]
theorem refs_at (n : NodeT) {i : Nat} {r : ByteArray} (h : n.refs[i]? = some r) (hr : r.size ≠ 0) : (refsFrom 0 (n.refs.take i)).length < n.refsL.length ∧ n.refsL.getD (refsFrom 0 (n.refs.take i)).length (0, ⟨#[]⟩) = (i, r) := by
  have h1 := refs_step n h
  rw [if_neg hr] at h1
  have h2 : n.refsL = refsFrom 0 (n.refs.take i) ++ ((i, r) :: refsFrom (0 + (n.refs.take (i + 1)).length) (n.refs.drop (i + 1))) := by
    unfold NodeT.refsL
    conv => lhs; rw [← List.take_append_drop (i + 1) n.refs]
    rw [refsFrom_append, h1, List.append_assoc]; rfl
  rw [h2]
  constructor
  · simp
  · simp [List.getD_eq_getElem?_getD]
theorem Tryz.strOne : (Tryz.prog.info? 9).map (·.size) = some 1 := by kernel_rfl
theorem Tryz.strAgg (w : World) : (isAgg 9).run Tryz.prog w = .ok false w := by kernel_rfl
set_option maxRecDepth 100000 in
set_option maxHeartbeats 1000000 in
theorem refs_it (b : Nat) (n : NodeT) (hr : n.refs.length = 16) : IterE Tryz.prog 99 #[.pointer (some ⟨b, 0, none⟩)] n.refsL.length n.rv (fun W => Blk W b (.cells n.cells.toArray 87)) := by
  intro l C Cx hC hCx hS W hY h0
  have hB := hS 0 W h0
  have hrg : W.rangeAt b 3 (n.refs.map Value.string) := fun j v hv => hB.cellL (by
    unfold NodeT.cells
    rw [show 3 + j = j + 3 by omega]
    simpa using hv)
  have hld := run_loadVar_mid (P := Tryz.prog) W b 3 54 _ _ hrg Tryz.uRefs rfl (by simp only [List.length_map, hr]; exact Tryz.iRefs)
  have hla : (Instr.loadAt 54 (.pointer (some ⟨b, 3, none⟩))).run Tryz.prog W = .ok (.agg (n.refs.map Value.string).toArray) W := by
    simp [Instr.loadAt, Instr.sureAddr, Sem.run_bind, Result.andThen, hld]
  have HB := Lib.hid hB
  have HY := Lib.hid hY
  have H0 := Lib.hid h0
  have HR := Lib.hid hr
  clear hB hY h0 hrg hld hr
  refine callsIn_of_wp Tryz.func99 rfl trivial ?_ rfl
  simp only [Tryz.ntmps99, List.size_toArray, List.length_cons, List.length_nil, Nat.reduceAdd, Nat.reduceSub, Array.replicate_succ, Array.replicate_zero, List.push_toArray, List.append_toArray, List.nil_append, List.cons_append]
  gi_wp2_with (refine wpListIn_load_known rfl 54 (.tmp 5) rfl _ _ rfl hla ?_)
  have HST := Lib.hid hC
  have HSX := Lib.hid hCx
  have HS := Lib.hid hS
  clear hC hCx hS hla
  gi_loopw [7] (fun v wr => RfRel W b n C v wr) (fun v _ => 16 - (intOf v).toNat)
  case atStart => exact ⟨0, by omega, rfl, by simpa [refsFrom] using H0.out⟩
  case round =>
    obtain ⟨i, hi, rfl, hCi⟩ := hrel
    have HCi := Lib.hid hCi
    clear hCi
    by_cases hlt : i < 16
    · obtain ⟨r, hri⟩ : ∃ r, n.refs[i]? = some r := ⟨_, List.getElem?_eq_getElem (by have := HR.out; omega)⟩
      have hix : (Instr.index 54 (.agg (n.refs.map Value.string).toArray) (.int .i64 (i : Int))).run Tryz.prog wr = .ok (.string r) wr := run_index_one Tryz.uRefs Tryz.strOne Tryz.strAgg _ i hlt _ (by rw [List.getElem?_map, hri]; rfl) wr
      have hst := refs_step n hri
      by_cases hr0 : r.size = 0
      · have hre : r = ⟨#[]⟩ := by
          obtain ⟨⟨l⟩⟩ := r
          cases l with
          | nil => rfl
          | cons x y => exact absurd hr0 (Nat.succ_ne_zero _)
        rw [if_pos hr0, List.append_nil] at hst
        subst hre
        have HSTp := Lib.hid hst
        clear hst hri hr0
        gi_wp2
        refine ⟨(fun f h => by cases h), ?_⟩
        gi_wp2
        go_roundw
        case rel => exact ⟨i + 1, by omega, by go_num, by rw [HSTp.out]; exact HCi.out⟩
        case measure => simp [intOf]; omega
      · have hat := refs_at n hri hr0
        have hne := ne_empty (s := r) (by omega)
        rw [if_neg hr0] at hst
        obtain ⟨k, hk⟩ : ∃ k, k = (refsFrom 0 (n.refs.take i)).length := ⟨_, rfl⟩
        rw [← hk] at hat HCi
        have hrv : n.rv k = #[.int .i64 (i : Int), .string r] := by unfold NodeT.rv; rw [hat.2]
        obtain ⟨fn, tm, asg, bd, hyr, hrd⟩ := HY.out k wr hat.1 HCi.out
        rw [hrv] at hyr
        have hlen : (refsFrom 0 (n.refs.take (i + 1))).length = k + 1 := by rw [hst, List.length_append, ← hk]; rfl
        have HLEN := Lib.hid hlen
        have HAT := Lib.hid hat
        have HRD := Lib.hid hrd
        clear hlen hat hrd hst hrv hk hri hr0
        gi_wp2
        refine ⟨rfl, HRD.out.mono ?_⟩
        rintro e w5 (⟨rfl, C5⟩ | ⟨rfl, C5⟩)
        · have HC5 := Lib.hid C5
          clear C5
          gi_wp2
          go_roundw
          case rel => exact ⟨i + 1, by omega, by go_num, by rw [HLEN.out]; exact HC5.out⟩
          case measure => simp [intOf]; omega
        · have HC5 := Lib.hid C5
          clear C5
          gi_wp2
          refine bodyPost_ret (results_none rfl _ _ _) rfl ?_
          exact ⟨⟨_, rfl⟩, .inr ⟨k + 1, HAT.out.1, by omega, HC5.out⟩⟩
    · have hi16 : i = 16 := by omega
      subst hi16
      gi_wp2
      refine bodyPost_end (results_none rfl _ _ _) rfl ?_
      refine ⟨⟨_, rfl⟩, .inl ?_⟩
      have h := HCi.out
      rw [List.take_of_length_le (by have := HR.out; omega)] at h
      exact h
end
end Go.Proofs.YtolhikjjchfnjaaGreatDoor
/- node: refs. -/
namespace Go.Proofs.YtolhikjjchfnjaaGreatDoor
section
open Go Go.RowKit
set_option linter.unusedSimpArgs false
set_option linter.unusedVariables false
set_option maxRecDepth 100000 in
theorem refs_c (w : World) (n : NodeT) : Calls Tryz.prog 62 #[n.V] w fun e w' => e = .returned (.func (.func 99) #[] #[.pointer (some ⟨w.heap.size, 0, none⟩)]) ∧ Blk w' w.heap.size (.cells n.cells.toArray 87) ∧ Ext w w' := by
  unfold NodeT.V
  go_enter Tryz.func62, Tryz.ntmps62
  go_wp2_with fail
  go_ret
  exact ⟨rfl, Blk.new w _, (ExtR w).alloc _⟩
set_option maxRecDepth 100000 in
theorem noneText_c (w : World) (n : NodeT) : Calls Tryz.prog 94 #[n.V] w fun e w' => e = .returned (.string (textB ⟨#[]⟩)) ∧ Ext w w' := by
  unfold NodeT.V
  go_enter Tryz.func94, Tryz.ntmps94
  go_wp2_with fail
  refine (text_c _ ⟨#[]⟩ (by decide)).mono ?_
  rintro e w1 ⟨rfl, hE⟩
  have HE : Hid (Ext w w1) := Lib.hid (((ExtR w).alloc _).trans hE)
  clear hE
  go_wp2_with fail
  go_ret
  exact ⟨rfl, HE.out⟩
end
end Go.Proofs.YtolhikjjchfnjaaGreatDoor
