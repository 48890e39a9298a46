/- Parts of the proof, one behind the other: CanonM, CanonN, CanonO, CanonP, CanonQ, MixF. Each is under no condition but those that it states. -/
import Derived.Test.YtolhikjjchfnjaaGreatDoorBa23
import Derived.Test.YtolhikjjchfnjaaGreatDoorBa16
/- canon: all, its iterator; what Nodes counts. -/
namespace Go.Proofs.YtolhikjjchfnjaaGreatDoor
section
open Go Go.RowKit
set_option linter.unusedSimpArgs false
set_option linter.unusedVariables false
attribute [local go_sem] Oper.semAt_some
def allVals (L : List ByteArray) (k : Nat) : Array Value := #[.string (L.getD k ⟨#[]⟩)]
set_option maxRecDepth 100000 in
set_option maxHeartbeats 2000000 in
theorem all_it (A : Nat → Prop) (bx : Nat) (a : AT) (hLn : (flatT a.pt).length ≤ 1000000) : IterE Tryz.prog 72 #[.pointer (some ⟨bx, 0, none⟩)] (flatT a.pt).length (allVals (flatT a.pt)) (fun W => Blk W bx (.cells #[ptrV a.root] 68) ∧ AtIs A a W) := by
  intro l C Cx hC hCx hS W hY h0
  have hT := tell_it A l C Cx hC (flatT a.pt) hLn (fun j W' hj hc => hY j W' hj hc) a 0 W (fun j x hx => by rw [Nat.zero_add]; exact hx) (fun j W' h => (hS j W' h).2) h0
  have q0 := (hS 0 W h0).1.cell (i := 0) (v := ptrV a.root) (by rfl)
  have HT := Lib.hid hT
  clear hT hY hC hCx hS h0
  unfold ptrV at q0
  obtain ⟨r, hr⟩ : ∃ r, r = a.root := ⟨_, rfl⟩
  rw [← hr] at q0 HT
  have HR := Lib.hid hr
  clear hr
  refine callsIn_of_wp Tryz.func72 rfl trivial ?_ rfl
  simp only [Tryz.ntmps72, List.size_toArray, List.length_cons, List.length_nil, Nat.reduceAdd, Nat.reduceSub, Array.replicate_succ, Array.replicate_zero, List.push_toArray, List.append_toArray, List.nil_append, List.cons_append]
  gi_wp2_with fail
  refine ⟨trivial, rfl, HT.out.mono ?_⟩
  rintro e w5 (⟨rfl, C5⟩ | ⟨rfl, q', hq1, hq2, C6⟩)
  · have HC5 := Lib.hid C5
    clear C5
    gi_wp2_with fail
    refine bodyPost_end (results_none rfl _ _ _) rfl ?_
    exact ⟨⟨_, rfl⟩, .inl (by have := HC5.out; rw [Nat.zero_add] at this; exact this)⟩
  · have HC6 := Lib.hid C6
    clear C6
    gi_wp2_with fail
    refine bodyPost_end (results_none rfl _ _ _) rfl ?_
    exact ⟨⟨_, rfl⟩, .inr ⟨q', hq2, hq1, HC6.out⟩⟩
set_option maxRecDepth 100000 in
theorem all_c (w : World) (k : Nat) : Calls Tryz.prog 42 #[ptrV k] w fun e w' => e = .returned (.func (.func 72) #[] #[.pointer (some ⟨w.heap.size, 0, none⟩)]) ∧ Blk w' w.heap.size (.cells #[ptrV k] 68) ∧ Ext w w' := by
  unfold ptrV
  go_enter Tryz.func42, Tryz.ntmps42
  go_wp2_with fail
  go_ret
  exact ⟨rfl, Blk.new w _, (ExtR w).alloc _⟩
/-! Each once, and how often. -/
def memB (acc : List ByteArray) (x : ByteArray) : Bool := (acc.map (·.data.toList)).contains x.data.toList
theorem memB_iff (acc : List ByteArray) (x : ByteArray) : memB acc x = true ↔ x ∈ acc := by
  unfold memB
  rw [List.contains_iff_mem, List.mem_map]
  exact ⟨fun ⟨y, hy, e⟩ => by rw [← show y = x from ByteArray.ext (Array.ext' e)]; exact hy, fun h => ⟨x, h, rfl⟩⟩
def addF (acc : List ByteArray) (x : ByteArray) : List ByteArray := if memB acc x = true then acc else acc ++ [x]
/-- The texts of a list, each once. -/
def firsts (l : List ByteArray) : List ByteArray := l.foldl addF []
theorem addF_mem (acc : List ByteArray) (x y : ByteArray) : y ∈ addF acc x ↔ y ∈ acc ∨ y = x := by
  unfold addF; split
  · rename_i h; exact ⟨.inl, fun h' => h'.elim id (fun e => e ▸ (memB_iff _ _).1 h)⟩
  · simp
theorem firsts_mem (l : List ByteArray) (y : ByteArray) : y ∈ firsts l ↔ y ∈ l := by
  unfold firsts
  suffices ∀ acc, y ∈ l.foldl addF acc ↔ y ∈ acc ∨ y ∈ l by simpa using this []
  induction l with
  | nil => intro acc; simp
  | cons x r ih => intro acc; rw [List.foldl_cons, ih, addF_mem, List.mem_cons]; exact or_assoc
theorem firsts_snoc (l : List ByteArray) (x : ByteArray) : firsts (l ++ [x]) = addF (firsts l) x := by
  unfold firsts; rw [List.foldl_append]; rfl
theorem firsts_len (l : List ByteArray) : (firsts l).length ≤ l.length := by
  unfold firsts
  suffices ∀ acc, (l.foldl addF acc).length ≤ acc.length + l.length by simpa using this []
  induction l with
  | nil => intro acc; simp
  | cons x r ih =>
    intro acc
    rw [List.foldl_cons, List.length_cons]
    have h1 := ih (addF acc x)
    have h2 : (addF acc x).length ≤ acc.length + 1 := by unfold addF; split <;> simp
    omega
theorem entGet_put {K : Type} [DecidableEq K] (k : K) (v : Value) (n : Nat) (k' : K) : ∀ (l : List (Ent K)), entGet (entPut l k v n) k' = if k' = k then some v else entGet l k'
  | [] => by
    by_cases h : k' = k
    · subst h; simp [entPut, entGet]
    · simp [entPut, entGet, h]
  | x :: r => by
    have ih := entGet_put k v n k' r
    unfold entPut
    by_cases hk : k = x.1
    · rw [if_pos hk]
      by_cases h : k' = k
      · subst h; simp [entGet]
      · have h2 : ¬ k' = x.1 := fun e => h (e.trans hk.symm)
        simp [entGet, h, h2]
    · rw [if_neg hk]
      by_cases h : k' = x.1
      · have h2 : ¬ k' = k := fun e => hk (e.symm.trans h)
        rw [if_neg h2]; simp [entGet, h]
      · have e1 : ∀ l, entGet (x :: l) k' = entGet l k' := fun l => by simp [entGet, h]
        rw [e1, e1, ih]
def cntB (l : List ByteArray) (x : ByteArray) : Nat := (l.map (·.data.toList)).count x.data.toList
def cntV (n : Nat) : Option Value := if n = 0 then none else some (.int .i64 (n : Int))
theorem Tryz.uMapSI : Tryz.prog.underlying 72 = some (.map 9 3) := by kernel_rfl
noncomputable abbrev Tryz.ES : KeyEnc Tryz.prog 9 (List UInt8) := keyStr Tryz.uStr
theorem Tryz.zeroI (w : World) : (zeroValue 3).run Tryz.prog w = .ok (.int .i64 0) w := by kernel_rfl
/-- What Nodes has behind k texts. -/
structure NodS (w : World) (g m : Nat) (A : Nat → Prop) (bx : Nat) (a : AT) (L : List ByteArray) (k : Nat) (W : World) : Prop where
  ext : Ext w W
  var : ∃ v n, Blk W g (.cells #[v] 29) ∧ W.ownsRow 0 9 1 v n ((firsts (L.take k)).map Value.string) ∧ n ≤ k ∧ ∀ b, v.ownBlock = some b → m + 2 ≤ b
  tab : ∃ es ck, Blk W (g + 1) (.map (Tryz.ES.arr es) ck) ∧ ∀ x : ByteArray, entGet es x.data.toList = cntV (cntB (L.take k) x)
  mv : Blk W (g + 2) (.cells #[.map (some (g + 1))] 72)
  box : Blk W bx (.cells #[ptrV a.root] 68)
  at' : AtIs A a W
theorem NodS.st {w : World} {g m : Nat} {A : Nat → Prop} {bx : Nat} {a : AT} {L : List ByteArray} {k : Nat} {W W' : World} (h : NodS w g m A bx a L k W) (e : Ext W W') : NodS w g m A bx a L k W' :=
  let ⟨v, n, h1, h2, h3, h4⟩ := h.var
  let ⟨es, ck, h5, h6⟩ := h.tab
  ⟨h.ext.trans e, ⟨v, n, h1.keeps e (fun h => h), own_ext h2 e, h3, h4⟩, ⟨es, ck, h5.keeps e (fun h => h), h6⟩, h.mv.keeps e (fun h => h), h.box.keeps e (fun h => h), AtIs.keeps e (fun _ _ h => h) a h.at'⟩
theorem NodS.put {w : World} {g m : Nat} {A : Nat → Prop} {bx : Nat} {a : AT} {L : List ByteArray} {k : Nat} {W : World} (h : NodS w g m A bx a L k W) {r : Nat} (hr : w.heap.size ≤ r) (h1 : g + 2 < r) (h2 : r < m + 2) (h3 : bx ≠ r) (h4 : ∀ x, A x → x ≠ r) (o : Obj) : NodS w g m A bx a L k (W.putObj r o) :=
  let ⟨v, n, h5, h6, h7, h8⟩ := h.var
  let ⟨es, ck, h9, h10⟩ := h.tab
  ⟨h.ext.putObj (.inr hr) _, ⟨v, n, h5.put_other (by omega) _, own_keeps h6 (Keeps.onePut W r o) (fun b hb e => by have := h8 b hb; omega), h7, h8⟩, ⟨es, ck, h9.put_other (by omega) _, h10⟩, h.mv.put_other (by omega) _, h.box.put_other h3 _,
    AtIs.keeps (Keeps.onePut W r o) (fun x hx e => h4 x hx e) a h.at'⟩
end
end Go.Proofs.YtolhikjjchfnjaaGreatDoor
/- canon, plain law: how many texts a trie has. -/
namespace Go.Proofs.YtolhikjjchfnjaaGreatDoor
section
open Go Go.RowKit
set_option linter.unusedSimpArgs false
set_option linter.unusedVariables false
def cutSum (l : List Pair) : Nat → Nat
  | 0 => 0
  | n + 1 => cutSum l n + (cutL n l).length
def hN (L : List UInt8) (n : Nat) : Nat := match L with | [] => 0 | a :: _ => if a.toNat < n then 1 else 0
theorem hN_step (p : Pair) (n : Nat) : hN p.l (n + 1) = hN p.l n + (if pickB n p = true then 1 else 0) := by
  have hpb : pickB n p = match p.l with | [] => false | a :: _ => a.toNat == n := rfl
  rw [hpb]
  cases p.l with
  | nil => rfl
  | cons a r =>
    simp only [hN, beq_iff_eq]
    by_cases h1 : a.toNat = n
    · rw [if_pos (by omega), if_neg (by omega), if_pos h1]
    · by_cases h3 : a.toNat < n
      · rw [if_pos (by omega), if_pos h3, if_neg h1]
      · rw [if_neg (by omega), if_neg h3, if_neg h1]
theorem hN_le (L : List UInt8) (n : Nat) : hN L n ≤ 1 := by
  cases L with
  | nil => exact Nat.zero_le _
  | cons a r => simp only [hN]; split <;> omega
theorem cutSum_cons (p : Pair) (l : List Pair) : ∀ n, cutSum (p :: l) n = cutSum l n + hN p.l n
  | 0 => by
    have : hN p.l 0 = 0 := by cases p.l <;> simp [hN]
    rw [this]; rfl
  | n + 1 => by
    have h : (cutL n (p :: l)).length = (cutL n l).length + (if pickB n p = true then 1 else 0) := by
      unfold cutL; rw [List.filter_cons]; split <;> simp
    unfold cutSum
    rw [cutSum_cons p l n, h, hN_step]
    omega
theorem cutSum_le : ∀ (l : List Pair) (n : Nat), cutSum l n ≤ l.length
  | [], n => by
    have : ∀ n, cutSum [] n = 0 := fun n => by induction n with
      | zero => rfl
      | succ n ih => unfold cutSum; rw [ih]; rfl
    rw [this]; exact Nat.zero_le _
  | p :: l, n => by
    rw [cutSum_cons, List.length_cons]
    have := cutSum_le l n
    have := hN_le p.l n
    omega
theorem flatTs_append : ∀ (a b : List PT), flatTs (a ++ b) = flatTs a ++ flatTs b
  | [], b => by simp [flatTs]
  | x :: a, b => by simp only [List.cons_append, flatTs, flatTs_append a b, List.append_assoc]
theorem held_le (T : PT) : (flatTs (heldK T)).length ≤ (flatT T).length := by
  unfold heldK; split <;> simp [flatTs]
theorem ks_le (B : List Pair → PT) (F : Nat) (l : List Pair) (hB : ∀ i, (cutL i l).length ≠ 0 → (flatT (B (dropL 1 (cutL i l)))).length ≤ F * (cutL i l).length) : ∀ n, (flatTs (ksK B l n)).length ≤ F * cutSum l n
  | 0 => by simp [ksK, flatTs, cutSum]
  | n + 1 => by
    rw [ksK_step, flatTs_append, List.length_append]
    unfold cutSum
    rw [Nat.mul_add]
    have := ks_le B F l hB n
    by_cases h0 : (cutL n l).length = 0
    · rw [if_pos h0]; simp [flatTs]; omega
    · rw [if_neg h0]
      have h1 := hB n h0
      have h2 := held_le (B (dropL 1 (cutL n l)))
      omega
theorem flat_le : ∀ (f : Nat) (l : List Pair), l ≠ [] → (flatT (buildT (f + 1) l)).length ≤ (f + 1) * l.length
  | f, l, hl => by
    have hlen : 1 ≤ l.length := List.length_pos_iff.2 hl
    show (flatT (.mk (nodeB (nodeF (buildT f) l)) (belowF (buildT f) l))).length ≤ _
    unfold flatT
    rw [List.length_cons]
    have key : (flatTs (belowF (buildT f) l)).length ≤ f * l.length := by
      unfold belowF
      split
      · simp [flatTs]
      · split
        · cases f with
          | zero =>
            have h := held_le (buildT 0 (dropL (comK l) l))
            have h0 : heldK (buildT 0 (dropL (comK l) l)) = [] := rfl
            rw [h0]; simp [flatTs]
          | succ f =>
            have h := held_le (buildT (f + 1) (dropL (comK l) l))
            have ih := flat_le f (dropL (comK l) l) (fun e => by have := dropL_len (comK l) l; rw [e] at this; simp at this; omega)
            rw [dropL_len] at ih
            omega
        · cases f with
          | zero =>
            have : ∀ n, ksK (buildT 0) l n = [] := fun n => by
              induction n with
              | zero => rfl
              | succ n ih =>
                rw [ksK_step, ih]
                split
                · rfl
                · rfl
            have h16 := this 16
            unfold ksK at h16
            rw [h16]; simp [flatTs]
          | succ f =>
            have h := ks_le (buildT (f + 1)) (f + 1) l (fun i hi => by
              have ih := flat_le f (dropL 1 (cutL i l)) (fun e => by have := dropL_len 1 (cutL i l); rw [e] at this; simp at this; omega)
              rwa [dropL_len] at ih) 16
            have h2 := Nat.mul_le_mul_left (f + 1) (cutSum_le l 16)
            have h3 : ksK (buildT (f + 1)) l 16 = (List.range 16).flatMap fun i => if (cutL i l).length = 0 then [] else heldK (buildT (f + 1) (dropL 1 (cutL i l))) := rfl
            rw [← h3]; exact Nat.le_trans h h2
    have : (f + 1) * l.length = f * l.length + l.length := by rw [Nat.succ_mul]
    omega
theorem trie_len {l : List Pair} (h : MapOk l) : (flatT (trieT l)).length ≤ 13 * l.length + 1 := by
  by_cases h0 : l = []
  · subst h0
    show (flatT (.mk (nodeB (nodeF (buildT 12) [])) (belowF (buildT 12) []))).length ≤ _
    have : belowF (buildT 12) [] = [] := rfl
    rw [this]; simp [flatT, flatTs]
  · have h1 : (flatT (trieT l)).length ≤ 13 * (rowsL l).length := flat_le 12 (rowsL l) (fun e => h0 (by unfold rowsL at e; simpa using e))
    have h2 : (rowsL l).length = l.length := by unfold rowsL; rw [List.length_map]
    rw [h2] at h1; omega
end
end Go.Proofs.YtolhikjjchfnjaaGreatDoor
/- canon: Nodes. -/
namespace Go.Proofs.YtolhikjjchfnjaaGreatDoor
section
open Go Go.RowKit
set_option linter.unusedSimpArgs false
set_option linter.unusedVariables false
attribute [local go_sem] Oper.semAt_some
theorem Tryz.makeMapSI (W : World) : (Instr.makeMap 72 none).run Tryz.prog W = .ok (.map (some W.heap.size)) (W.alloc (.map #[] 0)) := by kernel_rfl
theorem Tryz.enterAll1 : ∀ args w, (callFunc 72 args).run Tryz.prog w = .ok (.enter 72 args) w := fun _ _ => by kernel_rfl
set_option maxRecDepth 100000 in
set_option maxHeartbeats 8000000 in
theorem nodes_ok (w : World) (v : Value) (l : List Pair) (hc : Cubes w) (hv : RdP w v l) (h : checkN l = 0) : Calls Tryz.prog 16 #[v] w fun e w' => ∃ u n, e = .returned (.tuple #[u, .int .i64 0]) ∧ SRow w w' u n (firsts (flatT (trieT l))) := by
  have hm := check_ok h
  obtain ⟨a, c, hsl⟩ := hv.sl
  subst hsl
  have HV := Lib.hid hv
  have HM := Lib.hid hm
  have HC := Lib.hid hc
  have H := Lib.hid h
  have HL := Lib.hid hm.len
  obtain ⟨T, hT⟩ : ∃ T, T = trieT l := ⟨_, rfl⟩
  rw [← hT]
  have HTR := Lib.hid hT
  clear hv hm hc h hT
  rw [← callsIn_wide (n := 0)]
  refine callsIn_of_wp_marks Tryz.func16 rfl trivial ?_ rfl
  simp only [Tryz.ntmps16, List.size_toArray, List.length_cons, List.length_nil, Nat.reduceAdd, Nat.reduceSub, Array.replicate_succ, Array.replicate_zero, List.push_toArray, List.append_toArray, List.nil_append, List.cons_append]
  gi_wp2_with fail
  refine ⟨trivial, rfl, CallsIn.mono (callsIn_wide.2 (check_c w _ l HV.out (by have := HL.out; omega) (fun p hp => by have := HM.out.size p hp; omega))) ?_⟩
  rintro e w1 ⟨rfl, hE⟩
  rw [H.out]
  have HE := Lib.hid hE
  have hw1 := hE.size
  clear hE
  have hmm : (Instr.makeMap 72 none).run Tryz.prog (w1.alloc (.cells #[.slice none 0 0] 29)) = .ok (.map (some (w1.heap.size + 1))) ((w1.alloc (.cells #[.slice none 0 0] 29)).alloc (.map #[] 0)) := by
    rw [← World.size_alloc w1 (.cells #[.slice none 0 0] 29)]; exact Tryz.makeMapSI _
  gi_wp2_with fail
  obtain ⟨W6, hW6⟩ : ∃ W6, W6 = ((w1.alloc (.cells #[.slice none 0 0] 29)).alloc (.map #[] 0)).alloc (.cells #[.map (some (w1.heap.size + 1))] 72) := ⟨_, rfl⟩
  rw [← hW6]
  have hs6 : W6.heap.size = w1.heap.size + 3 := by rw [hW6]; simp
  have E6 : Ext w1 W6 := by rw [hW6]; exact (((ExtR w1).alloc _).alloc _).alloc _
  have B5 : Blk W6 w1.heap.size (.cells #[.slice none 0 0] 29) := by rw [hW6]; exact ((Blk.new w1 _).alloc _).alloc _
  have BM : Blk W6 (w1.heap.size + 1) (.map #[] 0) := by
    rw [hW6]; have := (Blk.new (w1.alloc (.cells #[.slice none 0 0] 29)) (.map #[] 0)).alloc (.cells #[.map (some (w1.heap.size + 1))] 72); rwa [World.size_alloc] at this
  have B6 : Blk W6 (w1.heap.size + 2) (.cells #[.map (some (w1.heap.size + 1))] 72) := by
    rw [hW6]; have := Blk.new ((w1.alloc (.cells #[.slice none 0 0] 29)).alloc (.map #[] 0)) (.cells #[.map (some (w1.heap.size + 1))] 72); rwa [World.size_alloc, World.size_alloc] at this
  clear hW6 hmm
  refine ⟨trivial, rfl, CallsIn.mono (callsIn_wide.2 (rows_c W6 _ l ((HV.out.ext HE.out).ext E6) (by have := HL.out; omega) (fun p hp => by have := HM.out.size p hp; omega))) ?_⟩
  rintro e w7 ⟨u, rfl, hr⟩
  have HR := Lib.hid hr.rd
  have hX7 : Ext W6 w7 := hr.ext
  clear hr
  obtain ⟨a2, c2, hu⟩ := HR.out.sl
  subst hu
  have HX7 := Lib.hid hX7
  have HB5 := Lib.hid (B5.keeps hX7 (fun h => h))
  have HBM := Lib.hid (BM.keeps hX7 (fun h => h))
  have HB6 := Lib.hid (B6.keeps hX7 (fun h => h))
  have HE7 := Lib.hid ((HE.out.trans E6).trans hX7)
  have hs7 := hX7.size
  clear B5 BM B6 E6 hX7
  gi_wp2_with fail
  refine ⟨trivial, rfl, CallsIn.mono (callsIn_wide.2 (build_c 12 (rowsL l) (rows_ok HM.out) (by unfold rowsL; rw [List.length_map]; have := HL.out; omega) w7 _ (HC.out.ext HE7.out) HR.out)) ?_⟩
  rintro e w8 ⟨k, rfl, hk, hE⟩
  have hk := PartAt.mono (A' := fun x => w7.heap.size ≤ x ∧ x < w8.heap.size) (fun x h1 h2 => ⟨h1, h2⟩) _ _ hk
  obtain ⟨at0, ha1, ha2, ha3⟩ := at_of _ _ hk
  have hs8 := hE.size
  have HB5' := Lib.hid (HB5.out.keeps hE (fun h => h))
  have HBM' := Lib.hid (HBM.out.keeps hE (fun h => h))
  have HB6' := Lib.hid (HB6.out.keeps hE (fun h => h))
  have HE8 := Lib.hid (HE7.out.trans hE)
  have HA3 := Lib.hid ha3
  have HA2 := Lib.hid ha2
  rw [← ha1]
  clear hk ha1 ha2 ha3 hE HB5 HBM HB6 HE7 HX7 HR HE
  gi_wp2_with fail
  refine ⟨trivial, rfl, CallsIn.mono (callsIn_wide.2 (all_c w8 at0.root)) ?_⟩
  rintro e w9 ⟨rfl, hbx, hE⟩
  have hpt : at0.pt = T := HA2.out.trans HTR.out.symm
  have hlen : (flatT at0.pt).length ≤ 1000000 := by
    rw [hpt, HTR.out]; have := trie_len HM.out; have := HL.out; omega
  have hl9 := hbx.lt
  obtain ⟨A, hA⟩ : ∃ A : Nat → Prop, A = fun x => w7.heap.size ≤ x ∧ x < w8.heap.size := ⟨_, rfl⟩
  have S0 : NodS w w1.heap.size w9.heap.size A w8.heap.size at0 (flatT at0.pt) 0 w9 :=
    ⟨HE8.out.trans hE, ⟨_, 0, HB5'.out.keeps hE (fun h => h), by simpa [firsts] using World.ownsRow_nil _ _ _ _, Nat.le_refl _, fun b hb => by cases hb⟩, ⟨[], 0, HBM'.out.keeps hE (fun h => h), fun x => by simp [entGet, cntB, cntV]⟩, HB6'.out.keeps hE (fun h => h), hbx, by rw [hA]; exact AtIs.keeps hE (fun _ _ h => h) _ HA3.out⟩
  have HS0 := Lib.hid S0
  have hAlo : ∀ x, A x → w1.heap.size + 2 < x ∧ x < w9.heap.size := fun x hx => by rw [hA] at hx; omega
  have hbx9 : w1.heap.size + 2 < w8.heap.size := by omega
  obtain ⟨L, hLd⟩ : ∃ L, L = flatT at0.pt := ⟨_, rfl⟩
  have hit := all_it A w8.heap.size at0 hlen
  rw [← hLd] at hit hlen HS0
  have HIT := Lib.hid hit
  have HLD := Lib.hid hLd
  have HALO := Lib.hid hAlo
  have HPT0 := Lib.hid hpt
  clear S0 hE hbx hA HE8 HB5' HBM' HB6' HA3 HA2 hpt hLd hit hAlo
  unfold ptrV
  gi_wp2_with fail
  refine wp_rangeE (N := L.length) (gf := 72) (lb := #[.pointer (some ⟨w8.heap.size, 0, none⟩)]) rfl Tryz.enterAll1 HIT.out
    (fun k => rfl) (NodS w w1.heap.size w9.heap.size A w8.heap.size at0 L) (fun _ _ _ => False) (fun k W W' h e => h.st e) (fun _ _ _ _ h _ => h) (fun k W h => ⟨h.box, h.at'⟩)
    (fun k W o h => h.put (by omega) (by omega) (by omega) (by omega) (fun x hx => by have := HALO.out x hx; omega) _)
    (fun k W o h => h.put (by omega) (by omega) (by omega) (by omega) (fun x hx => by have := HALO.out x hx; omega) _) (fun _ _ _ _ h => h)
    HS0.out (fun k => { tmps := #[.slice a l.length c, undef, .slice none 0 0, .int .i64 0, .int .i64 0, .pointer (some ⟨w1.heap.size, 0, none⟩), .pointer (some ⟨w1.heap.size + 1 + 1, 0, none⟩), .string (L.getD k ⟨#[]⟩), .slice a l.length c, .int .i64 0, .int .i64 0, .bool false, undef, .map (some (w1.heap.size + 1)), .slice a l.length c, .slice a2 (rowsL l).length c2, .pointer (some ⟨at0.root, 0, none⟩), .func (.func 72) #[] #[.pointer (some ⟨w8.heap.size, 0, none⟩)], .string (L.getD k ⟨#[]⟩), undef, undef, undef, undef, undef, undef, undef, undef, undef, undef, undef, undef, undef], defers := [] })
    ?hassign ?hbody ?hdone ?hstop
  case hassign =>
    intro l2 j W K hK
    unfold allVals
    rw [fold1]
    simp only [List.set_cons_zero, List.set_cons_succ]
    gi_wp2
    exact hK
  case hbody =>
    intro l2 k W hk h hlt
    obtain ⟨v, n, h1, h2, h3, h4⟩ := h.var
    obtain ⟨ad, cp, rfl⟩ := row_slice h2
    obtain ⟨es, ck, h5, h6⟩ := h.tab
    obtain ⟨x, hx⟩ : ∃ x, x = L.getD k ⟨#[]⟩ := ⟨_, rfl⟩
    rw [← hx]
    have hLx : L.take (k + 1) = L.take k ++ [x] := by
      rw [List.take_succ_eq_append_getElem hk, hx, List.getD_eq_getElem?_getD, List.getElem?_eq_getElem hk]; rfl
    obtain ⟨cn, hcn⟩ : ∃ cn, cn = cntB (L.take k) x := ⟨_, rfl⟩
    have hcl : cn ≤ 1000000 := by
      rw [hcn]; unfold cntB
      refine Nat.le_trans List.count_le_length ?_
      rw [List.length_map, List.length_take]; omega
    have e6 := h6 x
    rw [← hcn] at e6
    have hlk : (Instr.lookup 72 (.map (some (w1.heap.size + 1))) (.string x) false).run Tryz.prog W = .ok (.int .i64 (cn : Int)) W := by
      have := run_lookup Tryz.ES Tryz.uMapSI h5 (Tryz.zeroI W) x.data.toList false
      rw [e6] at this
      unfold cntV at this
      by_cases h0 : cn = 0
      · rw [if_pos h0] at this; rw [h0]; exact this
      · rw [if_neg h0] at this; exact this
    obtain ⟨es2, hes2⟩ : ∃ es2, es2 = entPut es x.data.toList (.int .i64 ((cn : Int) + 1)) ck := ⟨_, rfl⟩
    obtain ⟨ck2, hck2⟩ : ∃ ck2, ck2 = (if (entGet es x.data.toList).isSome then ck else ck + 1) := ⟨_, rfl⟩
    obtain ⟨W2, hW2⟩ : ∃ W2, W2 = W.putObj (w1.heap.size + 1) (.map (Tryz.ES.arr es2) ck2) := ⟨_, rfl⟩
    have hmu : (Instr.mapUpdate 72 (.map (some (w1.heap.size + 1))) (.string x) (.int .i64 ((cn : Int) + 1))).run Tryz.prog W = .ok () W2 := by
      have := run_mapUpdate Tryz.ES Tryz.uMapSI h5 x.data.toList (.int .i64 ((cn : Int) + 1))
      rw [← hes2, ← hck2, ← hW2] at this; exact this
    have B2 : Blk W2 (w1.heap.size + 1) (.map (Tryz.ES.arr es2) ck2) := by rw [hW2]; exact h5.put_same _
    have e7 : ∀ y : ByteArray, entGet es2 y.data.toList = cntV (cntB (L.take (k + 1)) y) := fun y => by
      rw [hes2, entGet_put, h6 y, hLx]
      have hc : cntB (L.take k ++ [x]) y = cntB (L.take k) y + (if x.data.toList = y.data.toList then 1 else 0) := by
        unfold cntB
        rw [List.map_append, List.count_append, List.map_cons, List.map_nil, List.count_singleton]
        simp
      rw [hc]
      by_cases hxy : y.data.toList = x.data.toList
      · have hyx : y = x := ByteArray.ext (Array.ext' hxy)
        subst hyx
        rw [if_pos rfl, if_pos rfl, ← hcn]
        unfold cntV; rw [if_neg (by omega)]; simp
      · rw [if_neg hxy, if_neg (fun e => hxy e.symm)]; rfl
    have hlk2 : (Instr.lookup 72 (.map (some (w1.heap.size + 1))) (.string x) false).run Tryz.prog W2 = .ok (.int .i64 ((cn : Int) + 1)) W2 := by
      have := run_lookup Tryz.ES Tryz.uMapSI B2 (Tryz.zeroI W2) x.data.toList false
      rw [hes2, entGet_put, if_pos rfl] at this
      exact this
    have K2 : Keeps (fun b => b = w1.heap.size + 1) W W2 := by rw [hW2]; exact Keeps.onePut _ _ _
    have q6 : W.cell? ⟨w1.heap.size + 1 + 1, 0, none⟩ = some (.map (some (w1.heap.size + 1))) := h.mv.cell (i := 0) (by rfl)
    have M2 := h.mv.keeps K2 (by omega)
    have q62 : W2.cell? ⟨w1.heap.size + 1 + 1, 0, none⟩ = some (.map (some (w1.heap.size + 1))) := M2.cell (i := 0) (by rfl)
    have V2 := h1.keeps K2 (by omega)
    have O2 := own_keeps h2 K2 (fun b hb e => by have := h4 b hb; omega)
    have X2 := h.box.keeps K2 (by omega)
    have A2 := AtIs.keeps K2 (fun y hy e => by have := HALO.out y hy; omega) _ h.at'
    have E2 := h.ext.trans' K2 (fun y hy e => by omega)
    have hV2 := V2.cell (i := 0) (v := .slice ad n cp) (by rfl)
    have hV2f : W2.frozen? ⟨w1.heap.size, 0, none⟩ = false := V2.frozen
    have HMEM := Lib.hid (show memB (firsts (L.take k)) x = true ↔ cn ≠ 0 from by
      rw [memB_iff, firsts_mem, hcn]
      unfold cntB
      rw [← Nat.pos_iff_ne_zero, List.count_pos_iff, List.mem_map]
      exact ⟨fun hm => ⟨x, hm, rfl⟩, fun ⟨y, hy, e⟩ => by rw [← show y = x from ByteArray.ext (Array.ext' e)]; exact hy⟩)
    have HFS := Lib.hid (show firsts (L.take (k + 1)) = addF (firsts (L.take k)) x by rw [hLx, firsts_snoc])
    have HTAB := Lib.hid (show ∃ es ck, Blk W2 (w1.heap.size + 1) (.map (Tryz.ES.arr es) ck) ∧ ∀ y : ByteArray, entGet es y.data.toList = cntV (cntB (L.take (k + 1)) y) from ⟨es2, ck2, B2, e7⟩)
    have HK2 := Lib.hid K2
    have HM2 := Lib.hid M2
    have HV2 := Lib.hid V2
    have HO2 := Lib.hid O2
    have HX2 := Lib.hid X2
    have HA2 := Lib.hid A2
    have HE2 := Lib.hid E2
    have H4 := Lib.hid h4
    clear h h1 h2 h4 h5 h6 hx hLx hcn e6 hes2 hck2 hW2 B2 e7 K2 M2 V2 O2 X2 A2 E2 HS0
    obtain ⟨i0, hi, hz0, hz1, hz2⟩ := info_parts Tryz.infoStr
    by_cases hc0 : cn = 0
    · subst hc0
      have hnm : memB (firsts (L.take k)) x = false := by
        cases hm : memB (firsts (L.take k)) x with
        | false => rfl
        | true => exact absurd rfl (HMEM.out.1 hm)
      have HNM := Lib.hid hnm
      have hlk' : (Instr.lookup 72 (.map (some (w1.heap.size + 1))) (.string x) false).run Tryz.prog W = .ok (.int .i64 0) W := hlk
      have hmu' : (Instr.mapUpdate 72 (.map (some (w1.heap.size + 1))) (.string x) (.int .i64 1)).run Tryz.prog W = .ok () W2 := hmu
      have hlk2' : (Instr.lookup 72 (.map (some (w1.heap.size + 1))) (.string x) false).run Tryz.prog W2 = .ok (.int .i64 1) W2 := hlk2
      clear hnm hlk hmu hlk2
      gi_wp2_with (gi_at_builtin; refine wpListIn_append_any _ rfl (.tmp 27) (.tmp 29) 29 rfl 9 i0 _ 1 16 Tryz.uStrs hi hz0 hz1 hz2 rfl (by decide) (.slice ad n cp) n _ rfl (own_ext HO2.out ((ExtR W2).alloc _)) ⟨W2.heap.size, 0, none⟩ 1 1 [.string x] rfl rfl (news_blk (Blk.new W2 _)) (by simp [Value.oneCell']) (by unfold maxLen; omega) (by omega) ?_; intro v' w6 r1 r2 r3; obtain ⟨ad', cp', rfl⟩ := row_slice r1; have hV6 := (HV2.out.alloc _).keeps r2 (fun e => by have := H4.out _ e; omega); have q56 : w6.cell? ⟨w1.heap.size, 0, none⟩ = some (.slice ad n cp) := hV6.cell (i := 0) (by rfl); have f56 : w6.frozen? ⟨w1.heap.size, 0, none⟩ = false := hV6.frozen)
      have hadd : firsts (L.take (k + 1)) = firsts (L.take k) ++ [x] := by rw [HFS.out]; unfold addF; rw [if_neg (by rw [HNM.out]; simp)]
      have r1' : w6.ownsRow 0 9 1 (.slice ad' (n + 1) cp') (n + 1) ((firsts (L.take (k + 1))).map Value.string) := by rw [hadd, List.map_append]; exact r1
      have K6 : Keeps (fun b => (Value.slice ad n cp).ownBlock = some b) W2 w6 := ((Keeps.refl _ W2).alloc _).trans r2
      have hv' : ∀ b, (Value.slice ad' (n + 1) cp').ownBlock = some b → w9.heap.size + 2 ≤ b := fun b hb => by
        rcases r3 with r3 | r3
        · exact H4.out b (r3 ▸ hb)
        · have h9 := r3 b hb; have := HK2.out.size; rw [World.size_alloc] at h9; omega
      have K7 : Keeps (fun b => b = w1.heap.size) w6 (w6.setCell ⟨w1.heap.size, 0, none⟩ (.slice ad' (n + 1) cp')) := Keeps.oneSet w6 ⟨w1.heap.size, 0, none⟩ _
      have nO : ∀ b, b < w9.heap.size + 2 → ¬ (Value.slice ad n cp).ownBlock = some b := fun b hb e => by have := H4.out b e; omega
      refine ⟨((HK2.out.mono (fun y _ e => ?_)).trans (K6.mono (fun y _ e => ?_))).trans (K7.mono (fun y _ e => ?_)), ?_⟩
      · have e : y = _ := e; show y ≠ _ ∧ y ≠ _; omega
      · have := H4.out y e; show y ≠ _ ∧ y ≠ _; omega
      · have e : y = _ := e; show y ≠ _ ∧ y ≠ _; omega
      · obtain ⟨es3, ck3, hT1, hT2⟩ := HTAB.out
        exact ⟨(HE2.out.trans' K6 (fun y hy e => by have := H4.out y e; omega)).trans' K7 (fun y hy e => by have e : y = _ := e; omega),
          ⟨_, n + 1, hV6.set_same (i := 0) _, own_keeps r1' K7 (fun b hb e => by have := hv' b hb; omega), by omega, hv'⟩,
          ⟨es3, ck3, (hT1.keeps K6 (nO _ (by omega))).keeps K7 (by omega), hT2⟩, (HM2.out.keeps K6 (nO _ (by omega))).keeps K7 (by omega), (HX2.out.keeps K6 (nO _ (by omega))).keeps K7 (by omega),
          AtIs.keeps K7 (fun y hy e => by have := HALO.out y hy; omega) _ (AtIs.keeps K6 (fun y hy => nO y (by have := HALO.out y hy; omega)) _ HA2.out)⟩
    · have hc1 : ¬ ((cn : Int) + 1 = 1) := by omega
      have hc2 : (((cn : Int) + 1) == 1) = false := by simp; omega
      have hm := HMEM.out.2 hc0
      have HNM := Lib.hid hm
      clear hm
      gi_wp2_with fail
      have hadd : firsts (L.take (k + 1)) = firsts (L.take k) := by rw [HFS.out]; unfold addF; rw [if_pos HNM.out]
      refine ⟨HK2.out.mono (fun y _ e => ?_), ?_⟩
      · have e : y = _ := e; show y ≠ _ ∧ y ≠ _; omega
      · exact ⟨HE2.out, ⟨_, n, HV2.out, by rw [hadd]; exact HO2.out, by omega, H4.out⟩, HTAB.out, HM2.out, HX2.out, HA2.out⟩
  case hdone =>
    intro W h hd
    obtain ⟨v, n, h1, h2, h3, h4⟩ := h.var
    obtain ⟨ad, cp, rfl⟩ := row_slice h2
    have q5 : W.cell? ⟨w1.heap.size, 0, none⟩ = some (.slice ad n cp) := h1.cell (i := 0) (by rfl)
    rw [List.take_length, HLD.out] at h2
    have H2 := Lib.hid h2
    have H4 := Lib.hid h4
    have HX := Lib.hid h.ext
    have HD := Lib.hid hd
    have HPT := Lib.hid (show at0.pt = T from HPT0.out)
    clear h h1 h2 h4 hd HS0
    gi_wp2_with fail
    refine ⟨by simp, .inl ⟨_, _, rfl, run_takeDeferred HD.out, ?_⟩⟩
    refine ⟨_, results_tmp2 rfl _ _ _, ?_⟩
    have hK := Keeps.onePut W w9.heap.size (.deferred none)
    refine ⟨.slice ad n cp, n, rfl, ⟨_, _, rfl⟩, by rw [← HPT.out]; exact own_keeps H2.out hK (fun b hb e => by have := H4.out b hb; omega), HX.out.putObj (.inr (by omega)) _, fun b hb => by have := H4.out b hb; omega⟩
  case hstop => intro c k W _ _ h; exact h.elim
end
end Go.Proofs.YtolhikjjchfnjaaGreatDoor
/- canon: Root, Find. -/
namespace Go.Proofs.YtolhikjjchfnjaaGreatDoor
section
open Go Go.RowKit
set_option linter.unusedSimpArgs false
set_option linter.unusedVariables false
set_option maxRecDepth 100000 in
set_option maxHeartbeats 4000000 in
theorem root_ok (w : World) (v : Value) (l : List Pair) (hc : Cubes w) (hv : RdP w v l) (h : checkN l = 0) : Calls Tryz.prog 15 #[v] w fun e w' => e = .returned (.tuple #[.string (shaB (trieT l).text), .int .i64 0]) ∧ Ext w w' := by
  have hT := top_ok w v l hc hv h
  obtain ⟨a, c, hsl⟩ := hv.sl
  subst hsl
  obtain ⟨t, ht⟩ : ∃ t, t = (trieT l).text := ⟨_, rfl⟩
  rw [← ht] at hT ⊢
  have HT := Lib.hid hT
  have HC := Lib.hid hc
  clear hT hc hv ht h
  go_enter Tryz.func15, Tryz.ntmps15
  go_wp2_with fail
  refine HT.out.mono ?_
  rintro e w1 ⟨rfl, hE⟩
  have HE := Lib.hid hE
  clear hE
  go_wp2_with fail
  refine (of_t _ _ [t] (by simp) (rds_lit w1 [t] 9) (HC.out.ext (HE.out.alloc _))).mono ?_
  rintro e w2 ⟨rfl, hE⟩
  rw [catB_one]
  have HE2 := Lib.hid ((HE.out.alloc _).trans hE)
  clear hE
  go_wp2_with fail
  go_ret2
  exact ⟨rfl, HE2.out⟩
set_option maxRecDepth 100000 in
set_option maxHeartbeats 4000000 in
theorem root_bad (w : World) (v : Value) (l : List Pair) (hv : RdP w v l) (hn : l.length ≤ 9223372036854775807) (hs : ∀ p ∈ l, p.1.size ≤ 9223372036854775807 ∧ p.2.size ≤ 9223372036854775807) (h : checkN l ≠ 0) : Calls Tryz.prog 15 #[v] w fun e w' => e = .returned (.tuple #[.string ⟨#[]⟩, .int .i64 (checkN l)]) ∧ Ext w w' := by
  have hT := top_bad w v l hv hn hs h
  obtain ⟨a, c, hsl⟩ := hv.sl
  subst hsl
  obtain ⟨x, hx⟩ : ∃ x, x = checkN l := ⟨_, rfl⟩
  rw [← hx] at h hT ⊢
  have hne : (x == 0) = false := by simpa using h
  have HT := Lib.hid hT
  clear hT hv hx
  go_enter Tryz.func15, Tryz.ntmps15
  go_wp2_with fail
  refine HT.out.mono ?_
  rintro e w1 ⟨rfl, hE⟩
  have HE := Lib.hid hE
  clear hE
  go_wp2_with fail
  go_ret2
  exact ⟨rfl, HE.out⟩
set_option maxRecDepth 100000 in
set_option maxHeartbeats 4000000 in
theorem nodes_bad (w : World) (v : Value) (l : List Pair) (hv : RdP w v l) (hn : l.length ≤ 9223372036854775807) (hs : ∀ p ∈ l, p.1.size ≤ 9223372036854775807 ∧ p.2.size ≤ 9223372036854775807) (h : checkN l ≠ 0) : Calls Tryz.prog 16 #[v] w fun e w' => e = .returned (.tuple #[.slice none 0 0, .int .i64 (checkN l)]) ∧ Ext w w' := by
  have hck := check_c w v l hv hn hs
  obtain ⟨a, c, hsl⟩ := hv.sl
  subst hsl
  obtain ⟨x, hx⟩ : ∃ x, x = checkN l := ⟨_, rfl⟩
  rw [← hx] at h hck ⊢
  have hne : (x == 0) = false := by simpa using h
  have HT := Lib.hid hck
  clear hck hv hx hs
  rw [← callsIn_wide (n := 0)]
  refine callsIn_of_wp_marks Tryz.func16 rfl trivial ?_ rfl
  simp only [Tryz.ntmps16, List.size_toArray, List.length_cons, List.length_nil, Nat.reduceAdd, Nat.reduceSub, Array.replicate_succ, Array.replicate_zero, List.push_toArray, List.append_toArray, List.nil_append, List.cons_append]
  gi_wp2_with fail
  refine ⟨trivial, rfl, CallsIn.mono (callsIn_wide.2 HT.out) ?_⟩
  rintro e w1 ⟨rfl, hE⟩
  have HE := Lib.hid hE
  clear hE
  gi_wp2_with fail
  refine ⟨_, results_tmp2 rfl _ _ _, ?_⟩
  exact ⟨rfl, HE.out⟩
/-! Find. -/
set_option maxRecDepth 100000 in
theorem find1_c (w : World) (x y k : ByteArray) (gk : Nat) (hk : w.cell? ⟨gk, 0, none⟩ = some (.string k)) : Calls Tryz.prog 54 #[.agg #[.string x, .string y], .pointer (some ⟨gk, 0, none⟩)] w fun e w' => e = .returned (.bool (x.toList == k.toList)) ∧ Ext w w' := by
  have hk' := cell_ext hk ((ExtR w).alloc (.cells #[.string x, .string y] 52))
  clear hk
  go_enter Tryz.func54, Tryz.ntmps54
  go_wp2_with fail
  go_ret
  exact ⟨rfl, (ExtR w).alloc _⟩
/-- Where the first entry of a key is. -/
def keyAt (k : ByteArray) (l : List Pair) : Option Nat := l.findIdx? fun p => p.1.toList == k.toList
def idxV : Option Nat → Int | some i => i | none => -1
def IdxRel (w : World) (k : ByteArray) (l : List Pair) (v : Value) (wr : World) : Prop := ∃ i : Nat, i ≤ l.length ∧ v = .int .i64 i ∧ Ext w wr ∧ ∀ p ∈ l.take i, (p.1.toList == k.toList) = false
set_option maxRecDepth 100000 in
set_option maxHeartbeats 4000000 in
theorem indexFunc_c (w : World) (v : Value) (l : List Pair) (k : ByteArray) (gk : Nat) (hv : RdP w v l) (hn : l.length ≤ 1000000) (hk : w.cell? ⟨gk, 0, none⟩ = some (.string k)) : Calls Tryz.prog 53 #[v, .func (.func 54) #[] #[.pointer (some ⟨gk, 0, none⟩)]] w fun e w' => e = .returned (.int .i64 (idxV (keyAt k l))) ∧ Ext w w' := by
  obtain ⟨a, c, hsl⟩ := hv.sl
  have HV := Lib.hid hv
  have HK := Lib.hid hk
  subst hsl
  clear hv hk
  go_enter Tryz.func53, Tryz.ntmps53
  go_wp2_with fail
  go_loopw [8] (fun i wr => IdxRel w k l i wr) (fun i _ => l.length - (intOf i).toNat)
  case atStart => exact ⟨0, by omega, rfl, ExtR w, fun p hp => by simp at hp⟩
  case round =>
    obtain ⟨i, hi, rfl, hE, hall⟩ := hrel
    have HE := Lib.hid hE
    have HALL := Lib.hid hall
    clear hE hall
    by_cases hlt : i < l.length
    · rcases HV.out with ⟨_, _, _, h0⟩ | ⟨b, o, c', hh, hb, hc, hcell⟩
      · rw [h0] at hlt; cases hlt
      cases hh
      obtain ⟨p, hp⟩ : ∃ p, l[i]? = some p := ⟨_, List.getElem?_eq_getElem hlt⟩
      obtain ⟨q1, q2⟩ := hcell i p hp
      have q1 := cell_ext q1 HE.out
      have q2 := cell_ext q2 HE.out
      obtain ⟨x, y⟩ := p
      simp only at q1 q2
      have b1 : (i : Int) < (l.length : Int) := by omega
      have HP := Lib.hid hp
      clear hcell hp
      go_wp2_with fail
      refine (find1_c wr x y k gk (cell_ext HK.out HE.out)).mono ?_
      rintro e w3 ⟨rfl, hE⟩
      have HE3 := Lib.hid (HE.out.trans hE)
      clear hE q1 q2
      cases hq : (x.toList == k.toList) with
      | true =>
        have HQ := Lib.hid hq
        clear hq
        go_wp2_with fail
        go_ret
        refine ⟨?_, HE3.out⟩
        have hka : keyAt k l = some i := by
          unfold keyAt
          rw [List.findIdx?_eq_some_iff_getElem]
          refine ⟨hlt, ?_, fun j hj => ?_⟩
          · rw [(List.getElem?_eq_some_iff.1 HP.out).2]; exact HQ.out
          · have := HALL.out l[j] (List.mem_take_iff_getElem.2 ⟨j, by omega, rfl⟩)
            rw [this]; simp
        rw [hka]; rfl
      | false =>
        have HQ := Lib.hid hq
        clear hq
        go_wp2_with fail
        go_roundw
        case rel =>
          refine ⟨i + 1, by omega, by go_num, HE3.out, fun p hp => ?_⟩
          rw [List.take_add_one, HP.out] at hp
          rcases List.mem_append.1 hp with hp | hp
          · exact HALL.out p hp
          · simp at hp; subst hp; exact HQ.out
        case measure => simp [intOf]; omega
    · have hil : i = l.length := by omega
      subst hil
      have hka : keyAt k l = none := by
        unfold keyAt
        rw [List.findIdx?_eq_none_iff]
        exact fun p hp => HALL.out p (by rw [List.take_length]; exact hp)
      have HKA := Lib.hid hka
      clear hka
      go_wp2
      go_ret
      exact ⟨by rw [HKA.out]; rfl, HE.out⟩
/-- A key's value. -/
def findB (l : List Pair) (k : ByteArray) : Option ByteArray := (keyAt k l).map fun i => (l.getD i pd).2
set_option maxRecDepth 100000 in
set_option maxHeartbeats 4000000 in
theorem find_c (w : World) (v : Value) (l : List Pair) (k : ByteArray) (hv : RdP w v l) (hn : l.length ≤ 1000000) : Calls Tryz.prog 25 #[v, .string k] w fun e w' => e = .returned (optV (findB l k)) ∧ Ext w w' := by
  obtain ⟨a, c, hsl⟩ := hv.sl
  have HV := Lib.hid hv
  subst hsl
  clear hv
  obtain ⟨r, hr⟩ : ∃ r, r = optV (findB l k) := ⟨_, rfl⟩
  rw [← hr]
  have HR := Lib.hid hr
  clear hr
  go_enter Tryz.func25, Tryz.ntmps25
  go_wp2_with fail
  refine (indexFunc_c _ _ l k w.heap.size (HV.out.ext ((ExtR w).alloc _)) hn ((Blk.new w _).cell (by rfl))).mono ?_
  rintro e w1 ⟨rfl, hE⟩
  have HE := Lib.hid (((ExtR w).alloc _).trans hE)
  clear hE
  cases hka : keyAt k l with
  | none =>
    have HRV := Lib.hid (show r = optV none by rw [HR.out]; unfold findB; rw [hka]; rfl)
    clear hka
    unfold idxV
    go_wp2_with fail
    go_ret2
    exact ⟨by rw [HRV.out]; rfl, HE.out⟩
  | some i =>
    have hil : i < l.length := by
      unfold keyAt at hka
      exact (List.findIdx?_eq_some_iff_getElem.1 hka).1
    rcases HV.out with ⟨_, _, _, h0⟩ | ⟨b, o, c', hh, hb, hc, hcell⟩
    · rw [h0] at hil; cases hil
    cases hh
    obtain ⟨p, hp⟩ : ∃ p, l[i]? = some p := ⟨_, List.getElem?_eq_getElem hil⟩
    have q2 := cell_ext (hcell i p hp).2 HE.out
    have HRV := Lib.hid (show r = optV (some p.2) by
      rw [HR.out]; unfold findB; rw [hka]
      show optV (some (l.getD i pd).2) = _
      rw [List.getD_eq_getElem?_getD, hp]; rfl)
    have b1 : (i : Int) < (l.length : Int) := by omega
    clear hka hcell hp
    unfold idxV
    go_wp2_with fail
    go_ret2
    exact ⟨by rw [HRV.out]; rfl, HE.out⟩
end
end Go.Proofs.YtolhikjjchfnjaaGreatDoor
/- canon: Equal of entries. -/
namespace Go.Proofs.YtolhikjjchfnjaaGreatDoor
section
open Go Go.RowKit
set_option linter.unusedSimpArgs false
set_option linter.unusedVariables false
theorem eqStr (d : Nat) (a b : ByteArray) (w : World) : (Op.equalIn (d + 1) 9 (.string a) (.string b)).run Tryz.prog w = .ok (a == b) w := by
  simp [Op.equalIn, Sem.run_bind, run_underlying Tryz.uStr, Result.andThen, Sem.run_pure]
def fieldsB (d : Option TypeDesc) (l : List (Bool × TypeId × Nat)) : Bool := match d with | some (.struct fs) => fs.toList.map (fun f => (f.name == "_", f.type, f.offset)) == l | _ => false
theorem fields2 {d : Option TypeDesc} (h : fieldsB d [(false, 9, 0), (false, 9, 1)] = true) : ∃ f g : Field, d = some (.struct #[f, g]) ∧ f.name ≠ "_" ∧ f.type = 9 ∧ f.offset = 0 ∧ g.name ≠ "_" ∧ g.type = 9 ∧ g.offset = 1 := by
  cases d with
  | none => cases h
  | some d =>
    cases d <;> try (cases h; done)
    rename_i fs
    obtain ⟨l⟩ := fs
    rcases l with _ | ⟨f, _ | ⟨g, _ | ⟨e, r⟩⟩⟩ <;> simp [fieldsB] at h
    obtain ⟨⟨h1, h2, h3⟩, h4, h5, h6⟩ := h
    exact ⟨f, g, rfl, h1, h2, h3, h4, h5, h6⟩
theorem Tryz.entFields : fieldsB (Tryz.prog.underlying 52) [(false, 9, 0), (false, 9, 1)] = true := by kernel_rfl
theorem Tryz.entHeld : Tryz.prog.stoodInHeld 52 = false := by kernel_rfl
set_option maxRecDepth 100000 in
theorem neq_pair (x y x' y' : ByteArray) (w : World) : (binOp .neq 52 (.agg #[.string x, .string y]) (.agg #[.string x', .string y'])).run Tryz.prog w = .ok (.bool (!(x == x' && y == y'))) w := by
  obtain ⟨f, g, h0, h1, h2, h3, h4, h5, h6⟩ := fields2 Tryz.entFields
  have hp1 : ∀ (u v : Value) w, (part 9 #[u, v] 0).run Tryz.prog w = .ok u w := fun u v w => by
    simp [part, Sem.run_bind, Tryz.strAgg, Result.andThen, Sem.run_pure]
  have hp2 : ∀ (u v : Value) w, (part 9 #[u, v] 1).run Tryz.prog w = .ok v w := fun u v w => by
    simp [part, Sem.run_bind, Tryz.strAgg, Result.andThen, Sem.run_pure]
  have he : ∀ d, (Op.equalIn (d + 2) 52 (.agg #[.string x, .string y]) (.agg #[.string x', .string y'])).run Tryz.prog w = .ok (x == x' && y == y') w := fun d => by
    rw [Op.equalIn]
    simp only [Sem.run_bind, run_underlying h0, Result.andThen]
    simp [Sem.run_bind, Result.andThen, Sem.run, Tryz.entHeld, h1, h2, h3, h4, h5, h6, hp1, hp2, eqStr]
    cases (x == x') with
    | false => simp [Sem.run_pure]
    | true =>
      simp [Sem.run_bind, Result.andThen, Sem.run, Tryz.entHeld, h1, h2, h3, h4, h5, h6, hp1, hp2, eqStr]
      cases (y == y') <;> simp [Sem.run_pure]
  have he' : (Op.equal 52 (.agg #[.string x, .string y]) (.agg #[.string x', .string y'])).run Tryz.prog w = .ok (x == x' && y == y') w := he 9998
  simp only [binOp, Sem.run_bind, he', Result.andThen, Sem.run_pure]
theorem Tryz.isEntry : isStruct (Tryz.prog.underlying 52) = true := by kernel_rfl
theorem Tryz.szEntry : (Tryz.prog.info? 52).map (·.size) = some 2 := by kernel_rfl
set_option maxRecDepth 100000 in
theorem load_pair {w : World} {b o : Nat} {x y : ByteArray} (h1 : w.cell? ⟨b, o, none⟩ = some (.string x)) (h2 : w.cell? ⟨b, o + 1, none⟩ = some (.string y)) : (Instr.loadAt 52 (.pointer (some ⟨b, o, none⟩))).run Tryz.prog w = .ok (.agg #[.string x, .string y]) w := by
  obtain ⟨fs, hu⟩ := und_struct Tryz.isEntry
  refine run_load_agg (xs := [.string x, .string y]) hu Tryz.szEntry (fun j v hv => ?_)
  rw [Addr.add_lit]
  match j, hv with
  | 0, hv => simp at hv; subst hv; exact h1
  | 1, hv => simp at hv; subst hv; exact h2
  | j + 2, hv => simp at hv
def eqP (p q : Pair) : Bool := p.1 == q.1 && p.2 == q.2
theorem eqP_iff (p q : Pair) : eqP p q = true ↔ p = q := by
  unfold eqP
  rw [ba_beq, ba_beq]
  simp only [Bool.and_eq_true, decide_eq_true_eq]
  constructor
  · rintro ⟨h1, h2⟩
    obtain ⟨a, b⟩ := p
    obtain ⟨c, d⟩ := q
    exact Prod.ext h1 h2
  · rintro rfl; exact ⟨rfl, rfl⟩
/-- Are they alike? -/
def sameL : List Pair → List Pair → Bool
  | [], [] => true
  | p :: l, q :: m => eqP p q && sameL l m
  | _, _ => false
theorem sameL_iff : ∀ (l m : List Pair), sameL l m = true ↔ l = m
  | [], [] => by simp [sameL]
  | p :: l, [] => by simp [sameL]
  | [], q :: m => by simp [sameL]
  | p :: l, q :: m => by
    unfold sameL
    rw [Bool.and_eq_true, eqP_iff, sameL_iff l m]; simp
def EqlRel (w : World) (l m : List Pair) (v : Value) (wr : World) : Prop := ∃ i : Nat, i ≤ l.length ∧ v = .int .i64 i ∧ Ext w wr ∧ l.take i = m.take i
set_option maxRecDepth 100000 in
set_option maxHeartbeats 4000000 in
theorem equal_c (w : World) (v u : Value) (l m : List Pair) (hv : RdP w v l) (hu : RdP w u m) (hn : l.length ≤ 1000000) (hn2 : m.length ≤ 1000000) : Calls Tryz.prog 55 #[v, u] w fun e w' => e = .returned (.bool (sameL l m)) ∧ Ext w w' := by
  obtain ⟨a, c, hsl⟩ := hv.sl
  obtain ⟨a', c', hsl'⟩ := hu.sl
  have HV := Lib.hid hv
  have HU := Lib.hid hu
  subst hsl
  subst hsl'
  clear hv hu
  by_cases hlen : l.length = m.length
  · have hq : ((l.length : Int) == (m.length : Int)) = true := by simp; omega
    have HLN := Lib.hid hlen
    obtain ⟨n, hnn⟩ : ∃ n, n = l.length := ⟨_, rfl⟩
    rw [← hlen, ← hnn]
    rw [← hnn] at hn
    have HN := Lib.hid hnn
    clear hq hlen hnn hn2
    go_enter Tryz.func55, Tryz.ntmps55
    go_wp2_with fail
    go_loopw [13] (fun i wr => EqlRel w l m i wr) (fun i _ => n - (intOf i).toNat)
    case atStart => exact ⟨0, by omega, rfl, ExtR w, by simp⟩
    case round =>
      obtain ⟨i, hi, rfl, hE, hall⟩ := hrel
      have HE := Lib.hid hE
      have HALL := Lib.hid hall
      have hi : i ≤ n := by rw [HN.out]; exact hi
      clear hE hall
      by_cases hlt : i < n
      · have hl1 : i < l.length := by have := HN.out; omega
        have hl2 : i < m.length := by have := HN.out; have := HLN.out; omega
        rcases HV.out with ⟨_, _, _, h0⟩ | ⟨b, o, c1, hh, hb, hc, hcell⟩
        · rw [h0] at hl1; cases hl1
        rcases HU.out with ⟨_, _, _, h0⟩ | ⟨b', o', c2, hh', hb', hc', hcell'⟩
        · rw [h0] at hl2; cases hl2
        obtain ⟨rfl, hx1, hx2⟩ := Value.slice.inj hh
        obtain ⟨rfl, hx3, hx4⟩ := Value.slice.inj hh'
        obtain ⟨p, hp⟩ : ∃ p, l[i]? = some p := ⟨_, List.getElem?_eq_getElem hl1⟩
        obtain ⟨q, hq⟩ : ∃ q, m[i]? = some q := ⟨_, List.getElem?_eq_getElem hl2⟩
        obtain ⟨q1, q2⟩ := hcell i p hp
        obtain ⟨q3, q4⟩ := hcell' i q hq
        have hla : ∀ w1, Ext wr w1 → (Instr.loadAt 52 (.pointer (some ⟨b, o + i * 2, none⟩))).run Tryz.prog w1 = .ok (.agg #[.string p.1, .string p.2]) w1 := fun w1 h1 => load_pair (cell_ext q1 (HE.out.trans h1)) (cell_ext q2 (HE.out.trans h1))
        have hlb : ∀ w1, Ext wr w1 → (Instr.loadAt 52 (.pointer (some ⟨b', o' + i * 2, none⟩))).run Tryz.prog w1 = .ok (.agg #[.string q.1, .string q.2]) w1 := fun w1 h1 => load_pair (cell_ext q3 (HE.out.trans h1)) (cell_ext q4 (HE.out.trans h1))
        have hnp := fun w => neq_pair p.1 p.2 q.1 q.2 w
        have HLA := Lib.hid hla
        have HLB := Lib.hid hlb
        have HNP := Lib.hid hnp
        have HP := Lib.hid hp
        have HQ := Lib.hid hq
        have b1 : (i : Int) < (n : Int) := by omega
        clear hcell hcell' hh hh' hx1 hx2 hx3 hx4 hp hq q1 q2 q3 q4 hla hlb hnp hl1 hl2 hc hc'
        go_wp2_with fail
        refine wp_region_mixK [0,1,2,3,4,5,6,7,8] Ext ExtR ExtT (by kernel_rfl) (by kernel_rfl) (by kernel_rfl) ?_
        iterate 3 (refine mixk_pure _ rfl (by kernel_rfl) rfl rfl (fun K hK => ?_); go_big_quiet_op; refine hK _ ?_; clear hK K)
        refine mixk_load ⟨b, o + i * 2, none⟩ _ rfl (by kernel_rfl) rfl rfl (fun w1 h1 => HLA.out w1 ((drewE wr).trans h1)) ?_
        simp only [Act.put, List.setIfInBounds_toArray, List.set_cons_zero, List.set_cons_succ]
        iterate 3 (refine mixk_pure _ rfl (by kernel_rfl) rfl rfl (fun K hK => ?_); go_big_quiet_op; refine hK _ ?_; clear hK K)
        refine mixk_load ⟨b', o' + i * 2, none⟩ _ rfl (by kernel_rfl) rfl rfl (fun w1 h1 => HLB.out w1 ((drewE wr).trans h1)) ?_
        simp only [Act.put, List.setIfInBounds_toArray, List.set_cons_zero, List.set_cons_succ]
        refine mixk_val _ (.bool (!eqP p q)) rfl (by kernel_rfl) rfl (fun w1 h1 => exec_bin rfl rfl (by kernel_rfl) (HNP.out w1)) ?_
        simp only [Act.put, List.setIfInBounds_toArray, List.set_cons_zero, List.set_cons_succ]
        refine mixk_end (by kernel_rfl) (fun w3 he => ?_)
        have HE3 := Lib.hid ((HE.out.trans (drewE wr)).trans he)
        clear he
        cases hpq : eqP p q with
        | true =>
          have hpe := (eqP_iff p q).1 hpq
          have HT := Lib.hid (show l.take (i + 1) = m.take (i + 1) by rw [List.take_add_one, List.take_add_one, HP.out, HQ.out, HALL.out, hpe])
          clear hpq hpe
          go_wp2_with fail
          go_roundw
          case rel => exact ⟨i + 1, by have := HN.out; omega, by go_num, HE3.out, HT.out⟩
          case measure => simp [intOf]; omega
        | false =>
          have HF := Lib.hid (show sameL l m = false by
            cases hs : sameL l m with
            | false => rfl
            | true =>
              have e := (sameL_iff l m).1 hs
              have e1 := HP.out
              rw [e, HQ.out] at e1
              rw [← Option.some.inj e1, (eqP_iff q q).2 rfl] at hpq; cases hpq)
          clear hpq
          go_wp2_with fail
          go_ret
          exact ⟨by rw [HF.out]; rfl, HE3.out⟩
      · have hin : i = n := by omega
        have HF := Lib.hid (show sameL l m = true by
          rw [sameL_iff]
          have := HALL.out
          rw [hin, HN.out, List.take_length, HLN.out, List.take_length] at this; exact this)
        go_wp2_with fail
        go_ret
        exact ⟨by rw [HF.out]; rfl, HE.out⟩
  · have hq : ((l.length : Int) == (m.length : Int)) = false := by simp; omega
    have hq2 : ¬ (l.length : Int) = (m.length : Int) := by omega
    have HF := Lib.hid (show sameL l m = false by
      cases hs : sameL l m with
      | false => rfl
      | true => exact absurd (by rw [(sameL_iff l m).1 hs]) hlen)
    go_enter Tryz.func55, Tryz.ntmps55
    go_wp2_with fail
    go_ret
    exact ⟨by rw [HF.out]; rfl, ExtR w⟩
end
end Go.Proofs.YtolhikjjchfnjaaGreatDoor
/- The law for regions that draw their order, where two hard operations may stand ready at once: a fork. Over any program. -/
namespace Go.Proofs.YtolhikjjchfnjaaGreatDoor
section
open Go Go.RowKit
set_option linter.unusedSimpArgs false
set_option linter.unusedVariables false

section mixf
variable {P : Program} {l : List Oper} {E : World → World → Prop}

/-- The walk in an order of one's own up to a place where R takes over. -/
def MixJ (P : Program) (l : List Oper) (E : World → World → Prop) (R : List Nat → Act → World → Prop) : List Nat → List Nat → Act → World → Prop
  | [], done, a, w => R done a w
  | k :: ord, done, a, w =>
    (k ∈ Region.ready .any l.toArray (marks l done) ∧ Region.free .any l.toArray (marks l done) k = true ∧ ∃ o v, l[k]? = some o ∧ YieldsE P l.toArray E w o v a ∧ MixJ P l E R ord (k :: done) (a.put o.dst v) w) ∨
    (Region.ready .any l.toArray (marks l done) = [k] ∧ ∀ w1, E w w1 → wpOp P l.toArray NoQ k (fun a' w' => E w1 w' ∧ MixJ P l E R ord (k :: done) a' w') a w1)

theorem anyK_of_mixJ (hE : ∀ w, E w w) (hT : ∀ x y z, E x y → E y z → E x z) (hs : Region.noSelect l.toArray = true) {Q : Act → World → Prop} {R : List Nat → Act → World → Prop} {n : Nat} (hR : ∀ done a w, R done a w → anyK P l.toArray E Q n (marks l done) a w) : ∀ (ord : List Nat) (done : List Nat) (a : Act) (w : World),
    MixJ P l E R ord done a w → anyK P l.toArray E Q (n + ord.length) (marks l done) a w
  | [], _, _, _, h => hR _ _ _ h
  | k :: ord, done, a, w, h => by
    rcases h with ⟨hr, hf, o, v, ho, hy, h⟩ | ⟨hr, h⟩
    · have ho' : l.toArray[k]? = some o := by simpa using ho
      exact anyK_first hE hT ho' (Region.noSelect_spec hs) (n + ord.length) (marks l done) a w (Region.free_spec ho' hf) hr hy (anyK_of_mixJ hE hT hs hR ord _ _ _ h)
    · intro w1 he
      refine ⟨fun h0 => (by rw [hr] at h0; cases h0), fun i hi => ?_⟩
      rw [hr] at hi
      obtain rfl : i = k := by simpa using hi
      exact wpOp_mono (fun a' w' h2 => ⟨h2.1, anyK_of_mixJ hE hT hs hR ord (i :: done) a' w' h2.2⟩) (h w1 he)

/-- Whichever of those that are ready comes first, there is an order for the rest. -/
def Fork (P : Program) (l : List Oper) (E : World → World → Prop) (Q : Act → World → Prop) (m : Nat) (done : List Nat) (a : Act) (w : World) : Prop :=
  Region.ready .any l.toArray (marks l done) ≠ [] ∧ ∀ k ∈ Region.ready .any l.toArray (marks l done), ∀ w1, E w w1 →
    wpOp P l.toArray NoQ k (fun a' w' => E w1 w' ∧ ∃ ord, ord.length = m ∧ MixK P l E Q ord (k :: done) a' w') a w1

theorem anyK_of_fork (hE : ∀ w, E w w) (hT : ∀ x y z, E x y → E y z → E x z) (hs : Region.noSelect l.toArray = true) {Q : Act → World → Prop} {m : Nat} (done : List Nat) (a : Act) (w : World) (h : Fork P l E Q m done a w) :
    anyK P l.toArray E Q (m + 1) (marks l done) a w := by
  intro w1 he
  refine ⟨fun h0 => absurd h0 h.1, fun i hi => ?_⟩
  exact wpOp_mono (fun a' w' h2 => ⟨h2.1, by obtain ⟨ord, ho, h3⟩ := h2.2; have := anyK_of_mix hE hT hs ord (i :: done) a' w' h3; rw [ho] at this; exact this⟩) (h.2 i hi w1 he)

theorem wp_region_mixF (m : Nat) (ord : List Nat) (E : World → World → Prop) (hE : ∀ w, E w w) (hT : ∀ x y z, E x y → E y z → E x z) {id : Nat} {Q : Exit → Act → World → Prop} {a : Act} {w : World}
    (hm : P.follows .mixedOrders = true) (hs : Region.noSelect l.toArray = true) (hl : m + 1 + ord.length = l.toArray.size)
    (h : MixJ P l E (Fork P l E (fun a w => Q .normal a w) m) ord [] a w.drew) : (Code.region id l.toArray true).wp P Q a w := by
  refine wp_region_any hm ?_
  rw [← hl]
  have := anyK_of_mixJ hE hT hs (fun done a w hf => anyK_of_fork hE hT hs done a w hf) ord _ _ _ h
  unfold marks at this
  rw [hl] at this ⊢
  exact anyK_sound hE (fun _ _ h => h) _ _ _ _ this

def twoK (l : List Oper) (done : List Nat) (j k : Nat) : Bool := Region.ready .any l.toArray (marks l done) == [j, k]
theorem fork_two {Q : Act → World → Prop} {done : List Nat} {a : Act} {w : World} {m j k : Nat} (o1 o2 : Oper) (ord1 ord2 : List Nat) (hk : twoK l done j k = true) (h01 : l[j]? = some o1) (h02 : l[k]? = some o2) (hl1 : ord1.length = m) (hl2 : ord2.length = m)
    (hw1 : Region.wanted o1 (yielded l.toArray a.tmps) = true) (hw2 : Region.wanted o2 (yielded l.toArray a.tmps) = true)
    (h1 : ∀ w1, E w w1 → ∀ K : Act → World → Prop, (∀ a' w', E w1 w' → MixK P l E Q ord1 (j :: done) a' w' → K a' w') → o1.wp P a w1 K NoQ)
    (h2 : ∀ w1, E w w1 → ∀ K : Act → World → Prop, (∀ a' w', E w1 w' → MixK P l E Q ord2 (k :: done) a' w' → K a' w') → o2.wp P a w1 K NoQ) : Fork P l E Q m done a w := by
  simp only [twoK, beq_iff_eq] at hk
  unfold Fork
  rw [hk]
  refine ⟨by simp, fun i hi w1 he => ?_⟩
  have h01' : l.toArray[j]? = some o1 := by simpa using h01
  have h02' : l.toArray[k]? = some o2 := by simpa using h02
  have hi : i = j ∨ i = k := by simpa using hi
  unfold wpOp
  rcases hi with rfl | rfl
  · simp only [h01', hw1, if_true]
    exact .inl (h1 w1 he _ (fun a' w' e1 e2 => ⟨e1, ord1, hl1, e2⟩))
  · simp only [h02', hw2, if_true]
    exact .inl (h2 w1 he _ (fun a' w' e1 e2 => ⟨e1, ord2, hl2, e2⟩))

/-! The steps. -/
variable {R : List Nat → Act → World → Prop} {ord done : List Nat} {a : Act} {w : World} {k : Nat} {o : Oper}
theorem mixj_pure (o : Oper) (ho : l[k]? = some o) (hk : headK l done k = true) (hw : Region.wanted o (yielded l.toArray a.tmps) = true) (hq : isPure o.op = true)
    (h : ∀ K : Act → Prop, (∀ a', MixJ P l E R ord (k :: done) a' w → K a') → o.quiet P a (fun _ => True) K) : MixJ P l E R (k :: ord) done a w := by
  simp only [headK, Bool.and_eq_true, List.contains_iff_mem] at hk
  obtain ⟨v, h1, h2⟩ := h _ (fun _ h => h)
  have key : YieldsE P l.toArray E w o v a := by
    refine .inl ⟨hw, fun w1 _ => ?_⟩
    have h3 := h1 w1 trivial
    unfold Oper.quietAt at h3
    have h4 := fun f args w' => pure_no (ρ := a.eval) hq P w1 w' f args
    generalize (execOp a.eval o).run P w1 = r at *
    cases r with
    | ok n w' => cases n <;> simp only [Oper.quietUpon] at h3 <;> first | exact h3 | exact absurd rfl (h4 _ _ _)
    | halt x w' => simp only [Oper.quietUpon] at h3
  exact .inl ⟨hk.1, hk.2, o, v, ho, key, h2⟩

theorem mixj_val (o : Oper) (v : Value) (ho : l[k]? = some o) (hk : headK l done k = true) (hw : Region.wanted o (yielded l.toArray a.tmps) = true)
    (hv : ∀ w1, E w w1 → (execOp a.eval o).run P w1 = .ok (.value v) w1) (h : MixJ P l E R ord (k :: done) (a.put o.dst v) w) : MixJ P l E R (k :: ord) done a w := by
  simp only [headK, Bool.and_eq_true, List.contains_iff_mem] at hk
  exact .inl ⟨hk.1, hk.2, o, v, ho, .inl ⟨hw, fun w1 hc => by rw [hv w1 hc]; exact ⟨rfl, rfl⟩⟩, h⟩

theorem mixj_load (p : Addr) (v : Value) {t : TypeId} {x : Operand} {d : Option Tmp} {ty : TypeId} {pos : String} {af : Array Edge} {g : Option (Nat × Bool)} (ho : l[k]? = some ⟨d, .load t x, ty, pos, af, g⟩) (hk : headK l done k = true)
    (hw : Region.wanted ⟨d, .load t x, ty, pos, af, g⟩ (yielded l.toArray a.tmps) = true) (hx : a.eval x = .pointer (some p))
    (hv : ∀ w1, E w w1 → (Instr.loadAt t (.pointer (some p))).run P w1 = .ok v w1) (h : MixJ P l E R ord (k :: done) (a.put d v) w) : MixJ P l E R (k :: ord) done a w := by
  refine mixj_val _ v ho hk hw (fun w1 hc => ?_) h
  have := hv w1 hc
  simp only [execOp, hx, Sem.run_bind, this, Result.andThen, Sem.run_pure]

theorem mixj_skip (o : Oper) (ho : l[k]? = some o) (hk : headK l done k = true) (hw : Region.wanted o (yielded l.toArray a.tmps) = false)
    (h : MixJ P l E R ord (k :: done) (a.put o.dst undef) w) : MixJ P l E R (k :: ord) done a w := by
  simp only [headK, Bool.and_eq_true, List.contains_iff_mem] at hk
  exact .inl ⟨hk.1, hk.2, o, undef, ho, .inr ⟨hw, rfl⟩, h⟩

theorem mixj_call (o : Oper) (f : FuncId) (args : Array Value) (v : Value) (ho : l[k]? = some o) (hk : headK l done k = true) (hw : Region.wanted o (yielded l.toArray a.tmps) = true)
    (hv : ∀ w1, (execOp a.eval o).run P w1 = .ok (.enter f args) w1) (hc : ∀ w1, E w w1 → Calls P f args w1 (fun e w2 => e = .returned v ∧ E w1 w2))
    (h : MixJ P l E R ord (k :: done) (a.put o.dst v) w) : MixJ P l E R (k :: ord) done a w := by
  simp only [headK, Bool.and_eq_true, List.contains_iff_mem] at hk
  exact .inl ⟨hk.1, hk.2, o, v, ho, .inl ⟨hw, fun w1 hw1 => by rw [hv w1]; exact ⟨rfl, hc w1 hw1⟩⟩, h⟩

/-- An operation that stands alone. -/
theorem mixj_hard (o : Oper) (ho : l[k]? = some o) (hk : aloneK l done k = true) (hw : Region.wanted o (yielded l.toArray a.tmps) = true)
    (h : ∀ w1, E w w1 → ∀ K : Act → World → Prop, (∀ a' w', E w1 w' → MixJ P l E R ord (k :: done) a' w' → K a' w') → o.wp P a w1 K NoQ) : MixJ P l E R (k :: ord) done a w := by
  simp only [aloneK, beq_iff_eq] at hk
  refine .inr ⟨hk, fun w1 he => ?_⟩
  unfold wpOp
  have ho' : l.toArray[k]? = some o := by simpa using ho
  simp only [ho', hw, if_true]
  exact .inl (h w1 he _ (fun _ _ h1 h2 => ⟨h1, h2⟩))

/-- R takes over. -/
theorem mixj_end (h : R done a w) : MixJ P l E R [] done a w := h
end mixf
end
end Go.Proofs.YtolhikjjchfnjaaGreatDoor
