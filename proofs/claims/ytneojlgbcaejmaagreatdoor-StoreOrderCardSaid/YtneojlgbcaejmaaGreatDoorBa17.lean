/- Parts of the proof, one behind the other: RlpD. Each is under no condition but those that it states. -/
import Derived.Test.YtneojlgbcaejmaaGreatDoorBa6
import Derived.Test.YtneojlgbcaejmaaGreatDoorBa16
/- rlp: items, one behind the other: each, Items (where they succeed). -/
namespace Go.Proofs.YtneojlgbcaejmaaGreatDoor
section
open Go Go.RowKit
set_option linter.unusedSimpArgs false
set_option linter.unusedVariables false
attribute [local go_sem] Oper.semAt_some
/-- An item, whatever is behind it. -/
def IsItem (x : ByteArray) : Prop := ∀ y : ByteArray, (x ++ y).size ≤ 1000000000 → ∃ r, cutN (x ++ y) = some r ∧ r.2.1 + r.2.2 = x.size
theorem catB_eq (x : ByteArray) (xs : List ByteArray) : catB (x :: xs) = x ++ catB xs := by
  apply ByteArray.ext; apply Array.ext'
  simp [catB, ByteArray.data_append]
theorem ext_cat_l (x y : ByteArray) : (x ++ y).extract 0 x.size = x := ByteArray.extract_append_eq_left rfl
theorem ext_cat_r (x y : ByteArray) : (x ++ y).extract x.size (x ++ y).size = y := ByteArray.extract_append_eq_right rfl (by rw [ByteArray.size_append])
set_option maxRecDepth 10000 in
theorem cutN_pos {s : ByteArray} {r : Bool × Nat × Nat} (h : cutN s = some r) : 0 < s.size ∧ 0 < r.2.1 + r.2.2 := by
  unfold cutN at h
  by_cases h0 : 0 < s.size
  · refine ⟨h0, ?_⟩
    rw [dif_pos h0] at h
    simp only at h
    by_cases h1 : s[0].toNat < 128
    · rw [if_pos h1] at h
      obtain rfl := Option.some.inj h; simp
    · rw [if_neg h1] at h
      obtain ⟨lm, hlm⟩ : ∃ lm : Bool × Nat, lm = if s[0].toNat < 192 then (false, s[0].toNat - 128) else (true, s[0].toNat - 192) := ⟨_, rfl⟩
      rw [← hlm] at h
      clear hlm
      obtain ⟨l, m⟩ := lm
      simp only at h
      by_cases h3 : m ≤ 55
      · rw [if_pos h3] at h
        split at h
        · obtain rfl := Option.some.inj h; simp only; omega
        · cases h
      · rw [if_neg h3] at h
        split at h
        · split at h
          · obtain rfl := Option.some.inj h; simp only; omega
          · cases h
        · cases h
  · rw [dif_neg h0] at h; cases h
theorem drop_cat {xs : List ByteArray} {k : Nat} (h : k < xs.length) : catB (xs.drop k) = xs[k] ++ catB (xs.drop (k + 1)) := by
  rw [List.drop_eq_getElem_cons h, catB_eq]
def strSz : Value → Nat | .string b => b.size | _ => 0
def EachRel (W : World) (xs : List ByteArray) (C : Nat → World → Prop) (v : Value) (wr : World) : Prop := ∃ k : Nat, k ≤ xs.length ∧ v = .string (catB (xs.drop k)) ∧ C k wr
set_option maxRecDepth 100000 in
set_option maxHeartbeats 1000000 in
theorem each_it (b : Nat) (xs : List ByteArray) (hx : ∀ x ∈ xs, IsItem x) (hs : (catB xs).size ≤ 1000000000) : IterE Tryz.prog 139 #[.pointer (some ⟨b, 0, none⟩)] xs.length (fun k => #[.string (xs.getD k ⟨#[]⟩), .nilIface]) (fun W => Blk W b (.cells #[.string (catB xs)] 9)) := by
  intro l C Cx hC hCx hS W hY h0
  have hB := (hS 0 W h0).cell (i := 0) (v := .string (catB xs)) (by rfl)
  have HY := Lib.hid hY
  have H0 := Lib.hid h0
  have HSZ := Lib.hid hs
  clear hY h0 hS hs
  refine callsIn_of_wp Tryz.func139 rfl trivial ?_ rfl
  simp only [Tryz.ntmps139, List.size_toArray, List.length_cons, List.length_nil, Nat.reduceAdd, Nat.reduceSub, Array.replicate_succ, Array.replicate_zero, List.push_toArray, List.append_toArray, List.nil_append, List.cons_append]
  gi_wp2
  have HST := Lib.hid hC
  have HSX := Lib.hid hCx
  clear hC hCx
  gi_loopw [3] (fun v wr => EachRel W xs C v wr) (fun v _ => strSz v)
  case atStart => exact ⟨0, by omega, rfl, H0.out⟩
  case round =>
    obtain ⟨k, hk, rfl, hCk⟩ := hrel
    have HCk := Lib.hid hCk
    clear hCk
    by_cases hlt : k < xs.length
    · obtain ⟨x, hxk⟩ : ∃ x, x = xs[k] := ⟨_, rfl⟩
      have hdc := drop_cat hlt
      rw [← hxk] at hdc
      obtain ⟨y, hy⟩ : ∃ y, y = catB (xs.drop (k + 1)) := ⟨_, rfl⟩
      rw [← hy] at hdc
      have hsz : (x ++ y).size ≤ 1000000000 := by
        have h1 : (catB (xs.drop k)).size ≤ (catB xs).size := by
          have h2 : (catB xs).size = (catB (xs.take k)).size + (catB (xs.drop k)).size := by
            conv => lhs; rw [← List.take_append_drop k xs]
            simp only [catB, ByteArray.size, List.map_append, List.flatten_append, List.size_toArray, List.length_append]
          omega
        rw [hdc] at h1; have := HSZ.out; omega
      obtain ⟨r, hr1, hr2⟩ := hx x (hxk ▸ List.getElem_mem hlt) y hsz
      obtain ⟨z, hz⟩ : ∃ z, z = x ++ y := ⟨_, rfl⟩
      have hzs : z.size = x.size + y.size := by rw [hz, ByteArray.size_append]
      rw [← hz] at hdc hsz hr1
      rw [hdc]
      have hpos := cutN_pos hr1
      have hne := ne_empty hpos.1
      have he1 : z.extract (r.2.1 + r.2.2) z.size = y := by
        rw [hr2, hz]; exact ext_cat_r x y
      have he2 : z.extract 0 x.size = x := by
        rw [hz]; exact ext_cat_l x y
      have hgx : xs.getD k ⟨#[]⟩ = x := by rw [List.getD_eq_getElem?_getD, List.getElem?_eq_getElem hlt, ← hxk]; rfl
      have HGX := Lib.hid hgx
      have HX := Lib.hid hxk
      have HSS := Lib.hid hsz
      have HYY := Lib.hid hy
      have HZ := Lib.hid hz
      have HZS := Lib.hid hzs
      have HP := Lib.hid hpos
      have HR2 := Lib.hid hr2
      clear hxk hdc hy hz hgx hpos hr2 hzs
      gi_wp2_with fail
      refine ⟨trivial, rfl, CallsIn.mono (callsIn_wide.2 (cut_c wr z r hsz hr1)) ?_⟩
      rintro e w1 ⟨rfl, hE⟩
      unfold CutRes
      rw [he1]
      obtain ⟨u, hu⟩ : ∃ u, u = z.extract r.2.1 (r.2.1 + r.2.2) := ⟨_, rfl⟩
      rw [← hu]
      obtain ⟨b1, o, ln⟩ := r
      simp only
      clear hr1 he1 hu hsz
      obtain ⟨fn, tm, asg, bd, hyr, hrd⟩ := HY.out k w1 hlt (HST.out k _ _ HCk.out hE)
      simp only [HGX.out] at hyr
      have HRD := Lib.hid hrd
      clear hE hrd
      have c1 : (z.size : Int) - (y.size : Int) = (x.size : Int) := by have := HZS.out; omega
      have c2 : (x.size : Int) ≤ (z.size : Int) := by have := HZS.out; omega
      have c3 : z.size ≤ 1000000000 := HSS.out
      gi_wp2
      refine ⟨rfl, (HRD.out.mono ?_)⟩
      rintro e w5 (⟨rfl, C5⟩ | ⟨rfl, C5⟩)
      · have HC5 := Lib.hid C5
        clear C5
        gi_wp2
        go_roundw
        case rel => exact ⟨k + 1, by omega, by rw [← HYY.out], HC5.out⟩
        case measure => show y.size < z.size; have := (show 0 < o + ln from HP.out.2); have := HZS.out; have := (show o + ln = x.size from HR2.out); omega
      · have HC5 := Lib.hid C5
        clear C5
        gi_wp2
        refine bodyPost_ret (results_none rfl _ _ _) rfl ?_
        exact ⟨⟨_, rfl⟩, .inr ⟨k + 1, by omega, by omega, HC5.out⟩⟩
    · have hkl : k = xs.length := by omega
      subst hkl
      have hd : catB (xs.drop xs.length) = ⟨#[]⟩ := by rw [List.drop_length]; rfl
      rw [hd]
      gi_wp2
      refine bodyPost_end (results_none rfl _ _ _) rfl ?_
      exact ⟨⟨_, rfl⟩, .inl HCk.out⟩
set_option maxRecDepth 100000 in
theorem each_c (w : World) (s : ByteArray) : Calls Tryz.prog 116 #[.string s] w fun e w' => e = .returned (.func (.func 139) #[] #[.pointer (some ⟨w.heap.size, 0, none⟩)]) ∧ Blk w' w.heap.size (.cells #[.string s] 9) ∧ Ext w w' := by
  go_enter Tryz.func116, Tryz.ntmps116
  go_wp2_with fail
  go_ret
  exact ⟨rfl, Blk.new w _, (ExtR w).alloc _⟩
theorem Tryz.enterEach1 : ∀ args w, (callFunc 139 args).run Tryz.prog w = .ok (.enter 139 args) w := fun _ _ => by kernel_rfl
theorem Tryz.sStrs : SInfo Tryz.prog 57 9 1 16 := SInfo.mk' (by kernel_rfl) (show (Tryz.prog.info? 9).map (fun i => (i.zero, i.size, i.bytes)) = some (some (.string ⟨#[]⟩), 1, 16) by kernel_rfl) rfl (by decide)
/-- append at a row of one's own, in a fence. -/
theorem wpListIn_app {P : Program} {t T : TypeId} {sz by' : Nat} (I : SInfo P t T sz by') {F : Fence} {nn : Nat} {w0 w : World} {v : Value} {n : Nat} {xs : List Value} {o : Oper} {a : Act} {g m c : Nat} {news : List Value} {ops : Array Oper} {rest : List Oper} {Q : Exit → Act → World → Prop} (hR : ORow T sz w0 w v n xs) (s x : Operand) (hgd : o.guard = none) (hs : a.eval s = v) (hx : a.eval x = .slice (some ⟨g, 0, none⟩) m c) (hB : ∀ j u, news[j]? = some u → w.cell? ((⟨g, 0, none⟩ : Addr).add j) = some u) (h1 : ∀ u ∈ news, u.oneCell' = true) (hl : news.length = m * sz)
    (ho : o.op = Op.call { callee := Callee.builtin Builtin.append, args := #[s, x], argTypes := #[t, t] }) (h63 : n + m ≤ maxLen) (hby : (n + m) * by' ≤ 140737488355328)
    (h : ∀ v' w', ORow T sz w0 w' v' (n + m) (xs ++ news) → Keeps (fun b => v.ownBlock = some b) w w' → (v'.ownBlock = v.ownBlock ∨ ∀ b, v'.ownBlock = some b → w.heap.size ≤ b) → wpListIn F nn P ops Q rest (a.put o.dst v') w') : wpListIn F nn P ops Q (o :: rest) a w := by
  obtain ⟨i, z, e1, e2, e3, e4, e5⟩ := I.hi
  exact wpListIn_append_any w (o := o) hgd s x t ho T i z sz by' I.ht e1 e2 e3 e4 e5 I.hsz v n xs hs hR.own ⟨g, 0, none⟩ m c news hx hl hB h1 h63 hby (fun v' w' r1 r2 r3 => h v' w' (hR.step r1 r2 r3) r2 r3)
end
end Go.Proofs.YtneojlgbcaejmaaGreatDoor
