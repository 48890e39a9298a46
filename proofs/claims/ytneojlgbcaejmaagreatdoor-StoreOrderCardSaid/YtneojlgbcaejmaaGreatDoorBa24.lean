/- Parts of the proof, one behind the other: CanonM, CanonN, CanonO, TextsA. Each is under no condition but those that it states. -/
import Derived.Test.YtneojlgbcaejmaaGreatDoorBa23
/- canon: all, its iterator; what Nodes counts. -/
namespace Go.Proofs.YtneojlgbcaejmaaGreatDoor
section
open Go Go.RowKit
set_option linter.unusedSimpArgs false
set_option linter.unusedVariables false
attribute [local go_sem] Oper.semAt_some
def allVals (L : List ByteArray) (k : Nat) : Array Value := #[.string (L.getD k ⟨#[]⟩)]
set_option maxRecDepth 100000 in
set_option maxHeartbeats 2000000 in
theorem all_it (A : Nat → Prop) (bx : Nat) (a : AT) (hLn : (flatT a.pt).length ≤ 1000000) : IterE Tryz.prog 72 #[.pointer (some ⟨bx, 0, none⟩)] (flatT a.pt).length (allVals (flatT a.pt)) (fun W => Blk W bx (.cells #[ptrV a.root] 96) ∧ AtIs A a W) := by
  intro l C Cx hC hCx hS W hY h0
  have hT := tell_it A l C Cx hC (flatT a.pt) hLn (fun j W' hj hc => hY j W' hj hc) a 0 W (fun j x hx => by rw [Nat.zero_add]; exact hx) (fun j W' h => (hS j W' h).2) h0
  have q0 := (hS 0 W h0).1.cell (i := 0) (v := ptrV a.root) (by rfl)
  have HT := Lib.hid hT
  clear hT hY hC hCx hS h0
  unfold ptrV at q0
  obtain ⟨r, hr⟩ : ∃ r, r = a.root := ⟨_, rfl⟩
  rw [← hr] at q0 HT
  have HR := Lib.hid hr
  clear hr
  refine callsIn_of_wp Tryz.func72 rfl trivial ?_ rfl
  simp only [Tryz.ntmps72, List.size_toArray, List.length_cons, List.length_nil, Nat.reduceAdd, Nat.reduceSub, Array.replicate_succ, Array.replicate_zero, List.push_toArray, List.append_toArray, List.nil_append, List.cons_append]
  gi_wp2_with fail
  refine ⟨trivial, rfl, HT.out.mono ?_⟩
  rintro e w5 (⟨rfl, C5⟩ | ⟨rfl, q', hq1, hq2, C6⟩)
  · have HC5 := Lib.hid C5
    clear C5
    gi_wp2_with fail
    refine bodyPost_end (results_none rfl _ _ _) rfl ?_
    exact ⟨⟨_, rfl⟩, .inl (by have := HC5.out; rw [Nat.zero_add] at this; exact this)⟩
  · have HC6 := Lib.hid C6
    clear C6
    gi_wp2_with fail
    refine bodyPost_end (results_none rfl _ _ _) rfl ?_
    exact ⟨⟨_, rfl⟩, .inr ⟨q', hq2, hq1, HC6.out⟩⟩
set_option maxRecDepth 100000 in
theorem all_c (w : World) (k : Nat) : Calls Tryz.prog 51 #[ptrV k] w fun e w' => e = .returned (.func (.func 72) #[] #[.pointer (some ⟨w.heap.size, 0, none⟩)]) ∧ Blk w' w.heap.size (.cells #[ptrV k] 96) ∧ Ext w w' := by
  unfold ptrV
  go_enter Tryz.func51, Tryz.ntmps51
  go_wp2_with fail
  go_ret
  exact ⟨rfl, Blk.new w _, (ExtR w).alloc _⟩
/-! Each once, and how often. -/
def memB (acc : List ByteArray) (x : ByteArray) : Bool := (acc.map (·.data.toList)).contains x.data.toList
theorem memB_iff (acc : List ByteArray) (x : ByteArray) : memB acc x = true ↔ x ∈ acc := by
  unfold memB
  rw [List.contains_iff_mem, List.mem_map]
  exact ⟨fun ⟨y, hy, e⟩ => by rw [← show y = x from ByteArray.ext (Array.ext' e)]; exact hy, fun h => ⟨x, h, rfl⟩⟩
def addF (acc : List ByteArray) (x : ByteArray) : List ByteArray := if memB acc x = true then acc else acc ++ [x]
/-- The texts of a list, each once. -/
def firsts (l : List ByteArray) : List ByteArray := l.foldl addF []
theorem addF_mem (acc : List ByteArray) (x y : ByteArray) : y ∈ addF acc x ↔ y ∈ acc ∨ y = x := by
  unfold addF; split
  · rename_i h; exact ⟨.inl, fun h' => h'.elim id (fun e => e ▸ (memB_iff _ _).1 h)⟩
  · simp
theorem firsts_mem (l : List ByteArray) (y : ByteArray) : y ∈ firsts l ↔ y ∈ l := by
  unfold firsts
  suffices ∀ acc, y ∈ l.foldl addF acc ↔ y ∈ acc ∨ y ∈ l by simpa using this []
  induction l with
  | nil => intro acc; simp
  | cons x r ih => intro acc; rw [List.foldl_cons, ih, addF_mem, List.mem_cons]; exact or_assoc
theorem firsts_snoc (l : List ByteArray) (x : ByteArray) : firsts (l ++ [x]) = addF (firsts l) x := by
  unfold firsts; rw [List.foldl_append]; rfl
theorem firsts_len (l : List ByteArray) : (firsts l).length ≤ l.length := by
  unfold firsts
  suffices ∀ acc, (l.foldl addF acc).length ≤ acc.length + l.length by simpa using this []
  induction l with
  | nil => intro acc; simp
  | cons x r ih =>
    intro acc
    rw [List.foldl_cons, List.length_cons]
    have h1 := ih (addF acc x)
    have h2 : (addF acc x).length ≤ acc.length + 1 := by unfold addF; split <;> simp
    omega
theorem entGet_put {K : Type} [DecidableEq K] (k : K) (v : Value) (n : Nat) (k' : K) : ∀ (l : List (Ent K)), entGet (entPut l k v n) k' = if k' = k then some v else entGet l k'
  | [] => by
    by_cases h : k' = k
    · subst h; simp [entPut, entGet]
    · simp [entPut, entGet, h]
  | x :: r => by
    have ih := entGet_put k v n k' r
    unfold entPut
    by_cases hk : k = x.1
    · rw [if_pos hk]
      by_cases h : k' = k
      · subst h; simp [entGet]
      · have h2 : ¬ k' = x.1 := fun e => h (e.trans hk.symm)
        simp [entGet, h, h2]
    · rw [if_neg hk]
      by_cases h : k' = x.1
      · have h2 : ¬ k' = k := fun e => hk (e.symm.trans h)
        rw [if_neg h2]; simp [entGet, h]
      · have e1 : ∀ l, entGet (x :: l) k' = entGet l k' := fun l => by simp [entGet, h]
        rw [e1, e1, ih]
def cntB (l : List ByteArray) (x : ByteArray) : Nat := (l.map (·.data.toList)).count x.data.toList
def cntV (n : Nat) : Option Value := if n = 0 then none else some (.int .i64 (n : Int))
theorem Tryz.uMapSI : Tryz.prog.underlying 93 = some (.map 9 3) := by kernel_rfl
noncomputable abbrev Tryz.ES : KeyEnc Tryz.prog 9 (List UInt8) := keyStr Tryz.uStr
theorem Tryz.zeroI (w : World) : (zeroValue 3).run Tryz.prog w = .ok (.int .i64 0) w := by kernel_rfl
/-- What Nodes has behind k texts. -/
structure NodS (w : World) (g m : Nat) (A : Nat → Prop) (bx : Nat) (a : AT) (L : List ByteArray) (k : Nat) (W : World) : Prop where
  ext : Ext w W
  var : ∃ v n, Blk W g (.cells #[v] 57) ∧ W.ownsRow 0 9 1 v n ((firsts (L.take k)).map Value.string) ∧ n ≤ k ∧ ∀ b, v.ownBlock = some b → m + 2 ≤ b
  tab : ∃ es ck, Blk W (g + 1) (.map (Tryz.ES.arr es) ck) ∧ ∀ x : ByteArray, entGet es x.data.toList = cntV (cntB (L.take k) x)
  mv : Blk W (g + 2) (.cells #[.map (some (g + 1))] 93)
  box : Blk W bx (.cells #[ptrV a.root] 96)
  at' : AtIs A a W
theorem NodS.st {w : World} {g m : Nat} {A : Nat → Prop} {bx : Nat} {a : AT} {L : List ByteArray} {k : Nat} {W W' : World} (h : NodS w g m A bx a L k W) (e : Ext W W') : NodS w g m A bx a L k W' :=
  let ⟨v, n, h1, h2, h3, h4⟩ := h.var
  let ⟨es, ck, h5, h6⟩ := h.tab
  ⟨h.ext.trans e, ⟨v, n, h1.keeps e (fun h => h), own_ext h2 e, h3, h4⟩, ⟨es, ck, h5.keeps e (fun h => h), h6⟩, h.mv.keeps e (fun h => h), h.box.keeps e (fun h => h), AtIs.keeps e (fun _ _ h => h) a h.at'⟩
theorem NodS.put {w : World} {g m : Nat} {A : Nat → Prop} {bx : Nat} {a : AT} {L : List ByteArray} {k : Nat} {W : World} (h : NodS w g m A bx a L k W) {r : Nat} (hr : w.heap.size ≤ r) (h1 : g + 2 < r) (h2 : r < m + 2) (h3 : bx ≠ r) (h4 : ∀ x, A x → x ≠ r) (o : Obj) : NodS w g m A bx a L k (W.putObj r o) :=
  let ⟨v, n, h5, h6, h7, h8⟩ := h.var
  let ⟨es, ck, h9, h10⟩ := h.tab
  ⟨h.ext.putObj (.inr hr) _, ⟨v, n, h5.put_other (by omega) _, own_keeps h6 (Keeps.onePut W r o) (fun b hb e => by have := h8 b hb; omega), h7, h8⟩, ⟨es, ck, h9.put_other (by omega) _, h10⟩, h.mv.put_other (by omega) _, h.box.put_other h3 _,
    AtIs.keeps (Keeps.onePut W r o) (fun x hx e => h4 x hx e) a h.at'⟩
end
end Go.Proofs.YtneojlgbcaejmaaGreatDoor
/- canon, plain law: how many texts a trie has. -/
namespace Go.Proofs.YtneojlgbcaejmaaGreatDoor
section
open Go Go.RowKit
set_option linter.unusedSimpArgs false
set_option linter.unusedVariables false
def cutSum (l : List Pair) : Nat → Nat
  | 0 => 0
  | n + 1 => cutSum l n + (cutL n l).length
def hN (L : List UInt8) (n : Nat) : Nat := match L with | [] => 0 | a :: _ => if a.toNat < n then 1 else 0
theorem hN_step (p : Pair) (n : Nat) : hN p.l (n + 1) = hN p.l n + (if pickB n p = true then 1 else 0) := by
  have hpb : pickB n p = match p.l with | [] => false | a :: _ => a.toNat == n := rfl
  rw [hpb]
  cases p.l with
  | nil => rfl
  | cons a r =>
    simp only [hN, beq_iff_eq]
    by_cases h1 : a.toNat = n
    · rw [if_pos (by omega), if_neg (by omega), if_pos h1]
    · by_cases h3 : a.toNat < n
      · rw [if_pos (by omega), if_pos h3, if_neg h1]
      · rw [if_neg (by omega), if_neg h3, if_neg h1]
theorem hN_le (L : List UInt8) (n : Nat) : hN L n ≤ 1 := by
  cases L with
  | nil => exact Nat.zero_le _
  | cons a r => simp only [hN]; split <;> omega
theorem cutSum_cons (p : Pair) (l : List Pair) : ∀ n, cutSum (p :: l) n = cutSum l n + hN p.l n
  | 0 => by
    have : hN p.l 0 = 0 := by cases p.l <;> simp [hN]
    rw [this]; rfl
  | n + 1 => by
    have h : (cutL n (p :: l)).length = (cutL n l).length + (if pickB n p = true then 1 else 0) := by
      unfold cutL; rw [List.filter_cons]; split <;> simp
    unfold cutSum
    rw [cutSum_cons p l n, h, hN_step]
    omega
theorem cutSum_le : ∀ (l : List Pair) (n : Nat), cutSum l n ≤ l.length
  | [], n => by
    have : ∀ n, cutSum [] n = 0 := fun n => by induction n with
      | zero => rfl
      | succ n ih => unfold cutSum; rw [ih]; rfl
    rw [this]; exact Nat.zero_le _
  | p :: l, n => by
    rw [cutSum_cons, List.length_cons]
    have := cutSum_le l n
    have := hN_le p.l n
    omega
theorem flatTs_append : ∀ (a b : List PT), flatTs (a ++ b) = flatTs a ++ flatTs b
  | [], b => by simp [flatTs]
  | x :: a, b => by simp only [List.cons_append, flatTs, flatTs_append a b, List.append_assoc]
theorem held_le (T : PT) : (flatTs (heldK T)).length ≤ (flatT T).length := by
  unfold heldK; split <;> simp [flatTs]
theorem ks_le (B : List Pair → PT) (F : Nat) (l : List Pair) (hB : ∀ i, (cutL i l).length ≠ 0 → (flatT (B (dropL 1 (cutL i l)))).length ≤ F * (cutL i l).length) : ∀ n, (flatTs (ksK B l n)).length ≤ F * cutSum l n
  | 0 => by simp [ksK, flatTs, cutSum]
  | n + 1 => by
    rw [ksK_step, flatTs_append, List.length_append]
    unfold cutSum
    rw [Nat.mul_add]
    have := ks_le B F l hB n
    by_cases h0 : (cutL n l).length = 0
    · rw [if_pos h0]; simp [flatTs]; omega
    · rw [if_neg h0]
      have h1 := hB n h0
      have h2 := held_le (B (dropL 1 (cutL n l)))
      omega
theorem flat_le : ∀ (f : Nat) (l : List Pair), l ≠ [] → (flatT (buildT (f + 1) l)).length ≤ (f + 1) * l.length
  | f, l, hl => by
    have hlen : 1 ≤ l.length := List.length_pos_iff.2 hl
    show (flatT (.mk (nodeB (nodeF (buildT f) l)) (belowF (buildT f) l))).length ≤ _
    unfold flatT
    rw [List.length_cons]
    have key : (flatTs (belowF (buildT f) l)).length ≤ f * l.length := by
      unfold belowF
      split
      · simp [flatTs]
      · split
        · cases f with
          | zero =>
            have h := held_le (buildT 0 (dropL (comK l) l))
            have h0 : heldK (buildT 0 (dropL (comK l) l)) = [] := rfl
            rw [h0]; simp [flatTs]
          | succ f =>
            have h := held_le (buildT (f + 1) (dropL (comK l) l))
            have ih := flat_le f (dropL (comK l) l) (fun e => by have := dropL_len (comK l) l; rw [e] at this; simp at this; omega)
            rw [dropL_len] at ih
            omega
        · cases f with
          | zero =>
            have : ∀ n, ksK (buildT 0) l n = [] := fun n => by
              induction n with
              | zero => rfl
              | succ n ih =>
                rw [ksK_step, ih]
                split
                · rfl
                · rfl
            have h16 := this 16
            unfold ksK at h16
            rw [h16]; simp [flatTs]
          | succ f =>
            have h := ks_le (buildT (f + 1)) (f + 1) l (fun i hi => by
              have ih := flat_le f (dropL 1 (cutL i l)) (fun e => by have := dropL_len 1 (cutL i l); rw [e] at this; simp at this; omega)
              rwa [dropL_len] at ih) 16
            have h2 := Nat.mul_le_mul_left (f + 1) (cutSum_le l 16)
            have h3 : ksK (buildT (f + 1)) l 16 = (List.range 16).flatMap fun i => if (cutL i l).length = 0 then [] else heldK (buildT (f + 1) (dropL 1 (cutL i l))) := rfl
            rw [← h3]; exact Nat.le_trans h h2
    have : (f + 1) * l.length = f * l.length + l.length := by rw [Nat.succ_mul]
    omega
theorem trie_len {l : List Pair} (h : MapOk l) : (flatT (trieT l)).length ≤ 13 * l.length + 1 := by
  by_cases h0 : l = []
  · subst h0
    show (flatT (.mk (nodeB (nodeF (buildT 12) [])) (belowF (buildT 12) []))).length ≤ _
    have : belowF (buildT 12) [] = [] := rfl
    rw [this]; simp [flatT, flatTs]
  · have h1 : (flatT (trieT l)).length ≤ 13 * (rowsL l).length := flat_le 12 (rowsL l) (fun e => h0 (by unfold rowsL at e; simpa using e))
    have h2 : (rowsL l).length = l.length := by unfold rowsL; rw [List.length_map]
    rw [h2] at h1; omega
end
end Go.Proofs.YtneojlgbcaejmaaGreatDoor
/- canon: Nodes. -/
namespace Go.Proofs.YtneojlgbcaejmaaGreatDoor
section
open Go Go.RowKit
set_option linter.unusedSimpArgs false
set_option linter.unusedVariables false
attribute [local go_sem] Oper.semAt_some
theorem Tryz.makeMapSI (W : World) : (Instr.makeMap 93 none).run Tryz.prog W = .ok (.map (some W.heap.size)) (W.alloc (.map #[] 0)) := by kernel_rfl
theorem Tryz.enterAll1 : ∀ args w, (callFunc 72 args).run Tryz.prog w = .ok (.enter 72 args) w := fun _ _ => by kernel_rfl
set_option maxRecDepth 100000 in
set_option maxHeartbeats 8000000 in
theorem nodes_ok (w : World) (v : Value) (l : List Pair) (hc : Cubes w) (hv : RdP w v l) (h : checkN l = 0) : Calls Tryz.prog 27 #[v] w fun e w' => ∃ u n, e = .returned (.tuple #[u, .int .i64 0]) ∧ SRow w w' u n (firsts (flatT (trieT l))) := by
  have hm := check_ok h
  obtain ⟨a, c, hsl⟩ := hv.sl
  subst hsl
  have HV := Lib.hid hv
  have HM := Lib.hid hm
  have HC := Lib.hid hc
  have H := Lib.hid h
  have HL := Lib.hid hm.len
  obtain ⟨T, hT⟩ : ∃ T, T = trieT l := ⟨_, rfl⟩
  rw [← hT]
  have HTR := Lib.hid hT
  clear hv hm hc h hT
  rw [← callsIn_wide (n := 0)]
  refine callsIn_of_wp_marks Tryz.func27 rfl trivial ?_ rfl
  simp only [Tryz.ntmps27, List.size_toArray, List.length_cons, List.length_nil, Nat.reduceAdd, Nat.reduceSub, Array.replicate_succ, Array.replicate_zero, List.push_toArray, List.append_toArray, List.nil_append, List.cons_append]
  gi_wp2_with fail
  refine ⟨trivial, rfl, CallsIn.mono (callsIn_wide.2 (check_c w _ l HV.out (by have := HL.out; omega) (fun p hp => by have := HM.out.size p hp; omega))) ?_⟩
  rintro e w1 ⟨rfl, hE⟩
  rw [H.out]
  have HE := Lib.hid hE
  have hw1 := hE.size
  clear hE
  have hmm : (Instr.makeMap 93 none).run Tryz.prog (w1.alloc (.cells #[.slice none 0 0] 57)) = .ok (.map (some (w1.heap.size + 1))) ((w1.alloc (.cells #[.slice none 0 0] 57)).alloc (.map #[] 0)) := by
    rw [← World.size_alloc w1 (.cells #[.slice none 0 0] 57)]; exact Tryz.makeMapSI _
  gi_wp2_with fail
  obtain ⟨W6, hW6⟩ : ∃ W6, W6 = ((w1.alloc (.cells #[.slice none 0 0] 57)).alloc (.map #[] 0)).alloc (.cells #[.map (some (w1.heap.size + 1))] 93) := ⟨_, rfl⟩
  rw [← hW6]
  have hs6 : W6.heap.size = w1.heap.size + 3 := by rw [hW6]; simp
  have E6 : Ext w1 W6 := by rw [hW6]; exact (((ExtR w1).alloc _).alloc _).alloc _
  have B5 : Blk W6 w1.heap.size (.cells #[.slice none 0 0] 57) := by rw [hW6]; exact ((Blk.new w1 _).alloc _).alloc _
  have BM : Blk W6 (w1.heap.size + 1) (.map #[] 0) := by
    rw [hW6]; have := (Blk.new (w1.alloc (.cells #[.slice none 0 0] 57)) (.map #[] 0)).alloc (.cells #[.map (some (w1.heap.size + 1))] 93); rwa [World.size_alloc] at this
  have B6 : Blk W6 (w1.heap.size + 2) (.cells #[.map (some (w1.heap.size + 1))] 93) := by
    rw [hW6]; have := Blk.new ((w1.alloc (.cells #[.slice none 0 0] 57)).alloc (.map #[] 0)) (.cells #[.map (some (w1.heap.size + 1))] 93); rwa [World.size_alloc, World.size_alloc] at this
  clear hW6 hmm
  refine ⟨trivial, rfl, CallsIn.mono (callsIn_wide.2 (rows_c W6 _ l ((HV.out.ext HE.out).ext E6) (by have := HL.out; omega) (fun p hp => by have := HM.out.size p hp; omega))) ?_⟩
  rintro e w7 ⟨u, rfl, hr⟩
  have HR := Lib.hid hr.rd
  have hX7 : Ext W6 w7 := hr.ext
  clear hr
  obtain ⟨a2, c2, hu⟩ := HR.out.sl
  subst hu
  have HX7 := Lib.hid hX7
  have HB5 := Lib.hid (B5.keeps hX7 (fun h => h))
  have HBM := Lib.hid (BM.keeps hX7 (fun h => h))
  have HB6 := Lib.hid (B6.keeps hX7 (fun h => h))
  have HE7 := Lib.hid ((HE.out.trans E6).trans hX7)
  have hs7 := hX7.size
  clear B5 BM B6 E6 hX7
  gi_wp2_with fail
  refine ⟨trivial, rfl, CallsIn.mono (callsIn_wide.2 (build_c 12 (rowsL l) (rows_ok HM.out) (by unfold rowsL; rw [List.length_map]; have := HL.out; omega) w7 _ (HC.out.ext HE7.out) HR.out)) ?_⟩
  rintro e w8 ⟨k, rfl, hk, hE⟩
  have hk := PartAt.mono (A' := fun x => w7.heap.size ≤ x ∧ x < w8.heap.size) (fun x h1 h2 => ⟨h1, h2⟩) _ _ hk
  obtain ⟨at0, ha1, ha2, ha3⟩ := at_of _ _ hk
  have hs8 := hE.size
  have HB5' := Lib.hid (HB5.out.keeps hE (fun h => h))
  have HBM' := Lib.hid (HBM.out.keeps hE (fun h => h))
  have HB6' := Lib.hid (HB6.out.keeps hE (fun h => h))
  have HE8 := Lib.hid (HE7.out.trans hE)
  have HA3 := Lib.hid ha3
  have HA2 := Lib.hid ha2
  rw [← ha1]
  clear hk ha1 ha2 ha3 hE HB5 HBM HB6 HE7 HX7 HR HE
  gi_wp2_with fail
  refine ⟨trivial, rfl, CallsIn.mono (callsIn_wide.2 (all_c w8 at0.root)) ?_⟩
  rintro e w9 ⟨rfl, hbx, hE⟩
  have hpt : at0.pt = T := HA2.out.trans HTR.out.symm
  have hlen : (flatT at0.pt).length ≤ 1000000 := by
    rw [hpt, HTR.out]; have := trie_len HM.out; have := HL.out; omega
  have hl9 := hbx.lt
  obtain ⟨A, hA⟩ : ∃ A : Nat → Prop, A = fun x => w7.heap.size ≤ x ∧ x < w8.heap.size := ⟨_, rfl⟩
  have S0 : NodS w w1.heap.size w9.heap.size A w8.heap.size at0 (flatT at0.pt) 0 w9 :=
    ⟨HE8.out.trans hE, ⟨_, 0, HB5'.out.keeps hE (fun h => h), by simpa [firsts] using World.ownsRow_nil _ _ _ _, Nat.le_refl _, fun b hb => by cases hb⟩, ⟨[], 0, HBM'.out.keeps hE (fun h => h), fun x => by simp [entGet, cntB, cntV]⟩, HB6'.out.keeps hE (fun h => h), hbx, by rw [hA]; exact AtIs.keeps hE (fun _ _ h => h) _ HA3.out⟩
  have HS0 := Lib.hid S0
  have hAlo : ∀ x, A x → w1.heap.size + 2 < x ∧ x < w9.heap.size := fun x hx => by rw [hA] at hx; omega
  have hbx9 : w1.heap.size + 2 < w8.heap.size := by omega
  obtain ⟨L, hLd⟩ : ∃ L, L = flatT at0.pt := ⟨_, rfl⟩
  have hit := all_it A w8.heap.size at0 hlen
  rw [← hLd] at hit hlen HS0
  have HIT := Lib.hid hit
  have HLD := Lib.hid hLd
  have HALO := Lib.hid hAlo
  have HPT0 := Lib.hid hpt
  clear S0 hE hbx hA HE8 HB5' HBM' HB6' HA3 HA2 hpt hLd hit hAlo
  unfold ptrV
  gi_wp2_with fail
  refine wp_rangeE (N := L.length) (gf := 72) (lb := #[.pointer (some ⟨w8.heap.size, 0, none⟩)]) rfl Tryz.enterAll1 HIT.out
    (fun k => rfl) (NodS w w1.heap.size w9.heap.size A w8.heap.size at0 L) (fun _ _ _ => False) (fun k W W' h e => h.st e) (fun _ _ _ _ h _ => h) (fun k W h => ⟨h.box, h.at'⟩)
    (fun k W o h => h.put (by omega) (by omega) (by omega) (by omega) (fun x hx => by have := HALO.out x hx; omega) _)
    (fun k W o h => h.put (by omega) (by omega) (by omega) (by omega) (fun x hx => by have := HALO.out x hx; omega) _) (fun _ _ _ _ h => h)
    HS0.out (fun k => { tmps := #[.slice a l.length c, undef, .slice none 0 0, .int .i64 0, .int .i64 0, .pointer (some ⟨w1.heap.size, 0, none⟩), .pointer (some ⟨w1.heap.size + 1 + 1, 0, none⟩), .string (L.getD k ⟨#[]⟩), .slice a l.length c, .int .i64 0, .int .i64 0, .bool false, undef, .map (some (w1.heap.size + 1)), .slice a l.length c, .slice a2 (rowsL l).length c2, .pointer (some ⟨at0.root, 0, none⟩), .func (.func 72) #[] #[.pointer (some ⟨w8.heap.size, 0, none⟩)], .string (L.getD k ⟨#[]⟩), undef, undef, undef, undef, undef, undef, undef, undef, undef, undef, undef, undef, undef], defers := [] })
    ?hassign ?hbody ?hdone ?hstop
  case hassign =>
    intro l2 j W K hK
    unfold allVals
    rw [fold1]
    simp only [List.set_cons_zero, List.set_cons_succ]
    gi_wp2
    exact hK
  case hbody =>
    intro l2 k W hk h hlt
    obtain ⟨v, n, h1, h2, h3, h4⟩ := h.var
    obtain ⟨ad, cp, rfl⟩ := row_slice h2
    obtain ⟨es, ck, h5, h6⟩ := h.tab
    obtain ⟨x, hx⟩ : ∃ x, x = L.getD k ⟨#[]⟩ := ⟨_, rfl⟩
    rw [← hx]
    have hLx : L.take (k + 1) = L.take k ++ [x] := by
      rw [List.take_succ_eq_append_getElem hk, hx, List.getD_eq_getElem?_getD, List.getElem?_eq_getElem hk]; rfl
    obtain ⟨cn, hcn⟩ : ∃ cn, cn = cntB (L.take k) x := ⟨_, rfl⟩
    have hcl : cn ≤ 1000000 := by
      rw [hcn]; unfold cntB
      refine Nat.le_trans List.count_le_length ?_
      rw [List.length_map, List.length_take]; omega
    have e6 := h6 x
    rw [← hcn] at e6
    have hlk : (Instr.lookup 93 (.map (some (w1.heap.size + 1))) (.string x) false).run Tryz.prog W = .ok (.int .i64 (cn : Int)) W := by
      have := run_lookup Tryz.ES Tryz.uMapSI h5 (Tryz.zeroI W) x.data.toList false
      rw [e6] at this
      unfold cntV at this
      by_cases h0 : cn = 0
      · rw [if_pos h0] at this; rw [h0]; exact this
      · rw [if_neg h0] at this; exact this
    obtain ⟨es2, hes2⟩ : ∃ es2, es2 = entPut es x.data.toList (.int .i64 ((cn : Int) + 1)) ck := ⟨_, rfl⟩
    obtain ⟨ck2, hck2⟩ : ∃ ck2, ck2 = (if (entGet es x.data.toList).isSome then ck else ck + 1) := ⟨_, rfl⟩
    obtain ⟨W2, hW2⟩ : ∃ W2, W2 = W.putObj (w1.heap.size + 1) (.map (Tryz.ES.arr es2) ck2) := ⟨_, rfl⟩
    have hmu : (Instr.mapUpdate 93 (.map (some (w1.heap.size + 1))) (.string x) (.int .i64 ((cn : Int) + 1))).run Tryz.prog W = .ok () W2 := by
      have := run_mapUpdate Tryz.ES Tryz.uMapSI h5 x.data.toList (.int .i64 ((cn : Int) + 1))
      rw [← hes2, ← hck2, ← hW2] at this; exact this
    have B2 : Blk W2 (w1.heap.size + 1) (.map (Tryz.ES.arr es2) ck2) := by rw [hW2]; exact h5.put_same _
    have e7 : ∀ y : ByteArray, entGet es2 y.data.toList = cntV (cntB (L.take (k + 1)) y) := fun y => by
      rw [hes2, entGet_put, h6 y, hLx]
      have hc : cntB (L.take k ++ [x]) y = cntB (L.take k) y + (if x.data.toList = y.data.toList then 1 else 0) := by
        unfold cntB
        rw [List.map_append, List.count_append, List.map_cons, List.map_nil, List.count_singleton]
        simp
      rw [hc]
      by_cases hxy : y.data.toList = x.data.toList
      · have hyx : y = x := ByteArray.ext (Array.ext' hxy)
        subst hyx
        rw [if_pos rfl, if_pos rfl, ← hcn]
        unfold cntV; rw [if_neg (by omega)]; simp
      · rw [if_neg hxy, if_neg (fun e => hxy e.symm)]; rfl
    have hlk2 : (Instr.lookup 93 (.map (some (w1.heap.size + 1))) (.string x) false).run Tryz.prog W2 = .ok (.int .i64 ((cn : Int) + 1)) W2 := by
      have := run_lookup Tryz.ES Tryz.uMapSI B2 (Tryz.zeroI W2) x.data.toList false
      rw [hes2, entGet_put, if_pos rfl] at this
      exact this
    have K2 : Keeps (fun b => b = w1.heap.size + 1) W W2 := by rw [hW2]; exact Keeps.onePut _ _ _
    have q6 : W.cell? ⟨w1.heap.size + 1 + 1, 0, none⟩ = some (.map (some (w1.heap.size + 1))) := h.mv.cell (i := 0) (by rfl)
    have M2 := h.mv.keeps K2 (by omega)
    have q62 : W2.cell? ⟨w1.heap.size + 1 + 1, 0, none⟩ = some (.map (some (w1.heap.size + 1))) := M2.cell (i := 0) (by rfl)
    have V2 := h1.keeps K2 (by omega)
    have O2 := own_keeps h2 K2 (fun b hb e => by have := h4 b hb; omega)
    have X2 := h.box.keeps K2 (by omega)
    have A2 := AtIs.keeps K2 (fun y hy e => by have := HALO.out y hy; omega) _ h.at'
    have E2 := h.ext.trans' K2 (fun y hy e => by omega)
    have hV2 := V2.cell (i := 0) (v := .slice ad n cp) (by rfl)
    have hV2f : W2.frozen? ⟨w1.heap.size, 0, none⟩ = false := V2.frozen
    have HMEM := Lib.hid (show memB (firsts (L.take k)) x = true ↔ cn ≠ 0 from by
      rw [memB_iff, firsts_mem, hcn]
      unfold cntB
      rw [← Nat.pos_iff_ne_zero, List.count_pos_iff, List.mem_map]
      exact ⟨fun hm => ⟨x, hm, rfl⟩, fun ⟨y, hy, e⟩ => by rw [← show y = x from ByteArray.ext (Array.ext' e)]; exact hy⟩)
    have HFS := Lib.hid (show firsts (L.take (k + 1)) = addF (firsts (L.take k)) x by rw [hLx, firsts_snoc])
    have HTAB := Lib.hid (show ∃ es ck, Blk W2 (w1.heap.size + 1) (.map (Tryz.ES.arr es) ck) ∧ ∀ y : ByteArray, entGet es y.data.toList = cntV (cntB (L.take (k + 1)) y) from ⟨es2, ck2, B2, e7⟩)
    have HK2 := Lib.hid K2
    have HM2 := Lib.hid M2
    have HV2 := Lib.hid V2
    have HO2 := Lib.hid O2
    have HX2 := Lib.hid X2
    have HA2 := Lib.hid A2
    have HE2 := Lib.hid E2
    have H4 := Lib.hid h4
    clear h h1 h2 h4 h5 h6 hx hLx hcn e6 hes2 hck2 hW2 B2 e7 K2 M2 V2 O2 X2 A2 E2 HS0
    obtain ⟨i0, hi, hz0, hz1, hz2⟩ := info_parts Tryz.infoStr
    by_cases hc0 : cn = 0
    · subst hc0
      have hnm : memB (firsts (L.take k)) x = false := by
        cases hm : memB (firsts (L.take k)) x with
        | false => rfl
        | true => exact absurd rfl (HMEM.out.1 hm)
      have HNM := Lib.hid hnm
      have hlk' : (Instr.lookup 93 (.map (some (w1.heap.size + 1))) (.string x) false).run Tryz.prog W = .ok (.int .i64 0) W := hlk
      have hmu' : (Instr.mapUpdate 93 (.map (some (w1.heap.size + 1))) (.string x) (.int .i64 1)).run Tryz.prog W = .ok () W2 := hmu
      have hlk2' : (Instr.lookup 93 (.map (some (w1.heap.size + 1))) (.string x) false).run Tryz.prog W2 = .ok (.int .i64 1) W2 := hlk2
      clear hnm hlk hmu hlk2
      gi_wp2_with (gi_at_builtin; refine wpListIn_append_any _ rfl (.tmp 27) (.tmp 29) 57 rfl 9 i0 _ 1 16 Tryz.uStrs hi hz0 hz1 hz2 rfl (by decide) (.slice ad n cp) n _ rfl (own_ext HO2.out ((ExtR W2).alloc _)) ⟨W2.heap.size, 0, none⟩ 1 1 [.string x] rfl rfl (news_blk (Blk.new W2 _)) (by simp [Value.oneCell']) (by unfold maxLen; omega) (by omega) ?_; intro v' w6 r1 r2 r3; obtain ⟨ad', cp', rfl⟩ := row_slice r1; have hV6 := (HV2.out.alloc _).keeps r2 (fun e => by have := H4.out _ e; omega); have q56 : w6.cell? ⟨w1.heap.size, 0, none⟩ = some (.slice ad n cp) := hV6.cell (i := 0) (by rfl); have f56 : w6.frozen? ⟨w1.heap.size, 0, none⟩ = false := hV6.frozen)
      have hadd : firsts (L.take (k + 1)) = firsts (L.take k) ++ [x] := by rw [HFS.out]; unfold addF; rw [if_neg (by rw [HNM.out]; simp)]
      have r1' : w6.ownsRow 0 9 1 (.slice ad' (n + 1) cp') (n + 1) ((firsts (L.take (k + 1))).map Value.string) := by rw [hadd, List.map_append]; exact r1
      have K6 : Keeps (fun b => (Value.slice ad n cp).ownBlock = some b) W2 w6 := ((Keeps.refl _ W2).alloc _).trans r2
      have hv' : ∀ b, (Value.slice ad' (n + 1) cp').ownBlock = some b → w9.heap.size + 2 ≤ b := fun b hb => by
        rcases r3 with r3 | r3
        · exact H4.out b (r3 ▸ hb)
        · have h9 := r3 b hb; have := HK2.out.size; rw [World.size_alloc] at h9; omega
      have K7 : Keeps (fun b => b = w1.heap.size) w6 (w6.setCell ⟨w1.heap.size, 0, none⟩ (.slice ad' (n + 1) cp')) := Keeps.oneSet w6 ⟨w1.heap.size, 0, none⟩ _
      have nO : ∀ b, b < w9.heap.size + 2 → ¬ (Value.slice ad n cp).ownBlock = some b := fun b hb e => by have := H4.out b e; omega
      refine ⟨((HK2.out.mono (fun y _ e => ?_)).trans (K6.mono (fun y _ e => ?_))).trans (K7.mono (fun y _ e => ?_)), ?_⟩
      · have e : y = _ := e; show y ≠ _ ∧ y ≠ _; omega
      · have := H4.out y e; show y ≠ _ ∧ y ≠ _; omega
      · have e : y = _ := e; show y ≠ _ ∧ y ≠ _; omega
      · obtain ⟨es3, ck3, hT1, hT2⟩ := HTAB.out
        exact ⟨(HE2.out.trans' K6 (fun y hy e => by have := H4.out y e; omega)).trans' K7 (fun y hy e => by have e : y = _ := e; omega),
          ⟨_, n + 1, hV6.set_same (i := 0) _, own_keeps r1' K7 (fun b hb e => by have := hv' b hb; omega), by omega, hv'⟩,
          ⟨es3, ck3, (hT1.keeps K6 (nO _ (by omega))).keeps K7 (by omega), hT2⟩, (HM2.out.keeps K6 (nO _ (by omega))).keeps K7 (by omega), (HX2.out.keeps K6 (nO _ (by omega))).keeps K7 (by omega),
          AtIs.keeps K7 (fun y hy e => by have := HALO.out y hy; omega) _ (AtIs.keeps K6 (fun y hy => nO y (by have := HALO.out y hy; omega)) _ HA2.out)⟩
    · have hc1 : ¬ ((cn : Int) + 1 = 1) := by omega
      have hc2 : (((cn : Int) + 1) == 1) = false := by simp; omega
      have hm := HMEM.out.2 hc0
      have HNM := Lib.hid hm
      clear hm
      gi_wp2_with fail
      have hadd : firsts (L.take (k + 1)) = firsts (L.take k) := by rw [HFS.out]; unfold addF; rw [if_pos HNM.out]
      refine ⟨HK2.out.mono (fun y _ e => ?_), ?_⟩
      · have e : y = _ := e; show y ≠ _ ∧ y ≠ _; omega
      · exact ⟨HE2.out, ⟨_, n, HV2.out, by rw [hadd]; exact HO2.out, by omega, H4.out⟩, HTAB.out, HM2.out, HX2.out, HA2.out⟩
  case hdone =>
    intro W h hd
    obtain ⟨v, n, h1, h2, h3, h4⟩ := h.var
    obtain ⟨ad, cp, rfl⟩ := row_slice h2
    have q5 : W.cell? ⟨w1.heap.size, 0, none⟩ = some (.slice ad n cp) := h1.cell (i := 0) (by rfl)
    rw [List.take_length, HLD.out] at h2
    have H2 := Lib.hid h2
    have H4 := Lib.hid h4
    have HX := Lib.hid h.ext
    have HD := Lib.hid hd
    have HPT := Lib.hid (show at0.pt = T from HPT0.out)
    clear h h1 h2 h4 hd HS0
    gi_wp2_with fail
    refine ⟨by simp, .inl ⟨_, _, rfl, run_takeDeferred HD.out, ?_⟩⟩
    refine ⟨_, results_tmp2 rfl _ _ _, ?_⟩
    have hK := Keeps.onePut W w9.heap.size (.deferred none)
    refine ⟨.slice ad n cp, n, rfl, ⟨_, _, rfl⟩, by rw [← HPT.out]; exact own_keeps H2.out hK (fun b hb e => by have := H4.out b hb; omega), HX.out.putObj (.inr (by omega)) _, fun b hb => by have := H4.out b hb; omega⟩
  case hstop => intro c k W _ _ h; exact h.elim
end
end Go.Proofs.YtneojlgbcaejmaaGreatDoor
/- canon, plain: the texts of a trie, and what they refer to. -/
namespace Go.Proofs.YtneojlgbcaejmaaGreatDoor
section
open Go Go.RowKit
set_option linter.unusedSimpArgs false
set_option linter.unusedVariables false
theorem firsts_head (x : ByteArray) (r : List ByteArray) : (firsts (x :: r))[0]? = some x := by
  unfold firsts
  rw [List.foldl_cons]
  have h : ∀ (r acc : List ByteArray), acc[0]? = some x → (r.foldl addF acc)[0]? = some x := by
    intro r
    induction r with
    | nil => intro acc h; exact h
    | cons y r ih =>
      intro acc h
      rw [List.foldl_cons]
      refine ih _ ?_
      unfold addF
      split
      · exact h
      · rw [List.getElem?_append_left (List.getElem?_eq_some_iff.1 h).1]; exact h
  exact h r _ (by simp [addF, memB])
theorem flatT_head (T : PT) : (firsts (flatT T))[0]? = some T.text := by
  obtain ⟨t, ks⟩ := T
  unfold flatT
  exact firsts_head t _
theorem nbeq_sha (x y : ByteArray) : (x.toList == y.toList) = decide (x = y) := by
  by_cases h : x = y
  · simp [h]
  · have h3 : ¬ x.toList = y.toList := fun h2 => h (toList_inj h2)
    simp only [h, decide_false]; exact beq_eq_false_iff_ne.2 h3
theorem flatTs_mem {t : ByteArray} : ∀ {ks : List PT}, t ∈ flatTs ks ↔ ∃ T ∈ ks, t ∈ flatT T
  | [] => by simp [flatTs]
  | T :: ks => by
    unfold flatTs
    rw [List.mem_append, flatTs_mem (ks := ks)]
    constructor
    · rintro (h | ⟨T', h1, h2⟩)
      · exact ⟨T, List.mem_cons_self, h⟩
      · exact ⟨T', List.mem_cons_of_mem _ h1, h2⟩
    · rintro ⟨T', h1, h2⟩
      rcases List.mem_cons.1 h1 with rfl | h1
      · exact .inl h2
      · exact .inr ⟨T', h1, h2⟩
/-- Two contracts on one call speak of one end. -/
theorem agree {P : Program} {f : FuncId} {args : Array Value} {w : World} {R R' : Value → World → Prop}
    (h : Calls P f args w fun | .returned v, w' => R v w' | _, _ => False) (h' : Calls P f args w fun | .returned v, w' => R' v w' | _, _ => False) (hi : P.inits.idxOf? f = none) :
    ∃ v w', R v w' ∧ R' v w' := by
  obtain ⟨n, v, w1, e1, r1⟩ := h.done hi
  obtain ⟨m, v', w2, e2, r2⟩ := h'.done hi
  have a := runN_ended e1 m
  have b := runN_ended e2 n
  rw [Nat.add_comm, a] at b
  injection b with ho hw
  injection ho with hv
  subst hv hw
  exact ⟨_, _, r1, r2⟩
theorem agree_eq {P : Program} {f : FuncId} {args : Array Value} {w : World} {a b : Value} {R R' : World → Prop}
    (h : Calls P f args w fun e w' => e = .returned a ∧ R w') (h' : Calls P f args w fun e w' => e = .returned b ∧ R' w') (hi : P.inits.idxOf? f = none) : a = b := by
  obtain ⟨v, w', h1, h2⟩ := agree (R := fun v _ => v = a) (R' := fun v _ => v = b)
    (h.mono fun e w' hh => by obtain ⟨rfl, _⟩ := hh; rfl) (h'.mono fun e w' hh => by obtain ⟨rfl, _⟩ := hh; rfl) hi
  exact h1.symm.trans h2
theorem nodeV_inj {n m : NodeT} (h : n.V = m.V) : n = m := by
  obtain ⟨k, p, v, rs⟩ := n
  obtain ⟨k', p', v', rs'⟩ := m
  unfold NodeT.V NodeT.cells at h
  injection h with h
  have h := congrArg Array.toList h
  simp only [List.toList_toArray, List.cons.injEq, Value.int.injEq, Value.string.injEq] at h
  obtain ⟨⟨_, h1⟩, h2, h3, h4⟩ := h
  have h5 : rs = rs' := by
    have : ∀ a b : List ByteArray, a.map Value.string = b.map Value.string → a = b := fun a => by
      induction a with
      | nil => intro b hb; cases b with | nil => rfl | cons x y => cases hb
      | cons x r ih =>
        intro b hb
        cases b with
        | nil => cases hb
        | cons y t =>
          simp only [List.map_cons, List.cons.injEq, Value.string.injEq] at hb
          rw [hb.1, ih t hb.2]
    exact this _ _ h4
  have h1 : k = k' := by omega
  subst h1 h2 h3 h5; rfl
theorem nodeB_inj (w : World) {f g : Nat} {n m : NodeT} (hn : GoodW (InlD f) n) (hm : GoodW (InlD g) m) (h : nodeB n = nodeB m) : n = m := by
  have h1 := get_c4 (inlP f) w n hn
  have h2 := get_c4 (inlP g) w m hm
  rw [h] at h1
  have := agree_eq h1 h2 (by kernel_rfl)
  injection this with this
  have := congrArg Array.toList this
  simp only [List.toList_toArray, List.cons.injEq] at this
  exact nodeV_inj this.1
theorem text32_inj {a b : ByteArray} (ha : a.size = 32) (hb : b.size = 32) (h : textB a = textB b) : a = b := by
  obtain ⟨r, h1, h2⟩ := hash_text a ha
  obtain ⟨s, h3, h4⟩ := hash_text b hb
  rw [h] at h1 h2
  rw [h1] at h3
  obtain rfl := Option.some.inj h3
  rw [h2] at h4
  exact Option.some.inj h4
theorem refB_small {T : PT} (h : T.text.size < 32) : refB T.text = T.text := by unfold refB; rw [if_pos h]
theorem refB_big {T : PT} (h : ¬ T.text.size < 32) : refB T.text = textB (shaB T.text) := by unfold refB; rw [if_neg h]
theorem flat_small {f : Nat} {T : PT} {n : NodeT} (h : Stands f T n) (hs : T.text.size < 32) : flatT T = [T.text] := by
  have hk := h.small hs
  obtain ⟨x, ks⟩ := T
  have hk : ks = [] := hk
  subst hk
  unfold flatT flatTs; rfl
theorem held_big {T : PT} (h : ¬ T.text.size < 32) : flatTs (heldK T) = flatT T := by
  unfold heldK; rw [if_neg h]; simp [flatTs]
theorem text_mem (T : PT) : T.text ∈ flatT T := by cases T; unfold flatT; exact List.mem_cons_self
theorem rows_one {l : List Pair} (h : RowsOk 0 l) : l.length ≤ 1 := by
  rcases Nat.lt_or_ge l.length 2 with h2 | h2
  · omega
  · obtain ⟨a, ha⟩ : ∃ a, l[0]? = some a := ⟨_, List.getElem?_eq_getElem (by omega)⟩
    obtain ⟨b, hb⟩ : ∃ b, l[1]? = some b := ⟨_, List.getElem?_eq_getElem (by omega)⟩
    have hlt := pair_get h.rise (by omega) ha hb
    have := (h.size b (List.mem_of_getElem? hb)).1
    rw [show b.l = [] from List.eq_nil_of_length_eq_zero (by show b.1.size = 0; omega)] at hlt
    exact absurd hlt (not_lt_nil _)
theorem ba_ext {a b : ByteArray} (h : a.data.toList = b.data.toList) : a = b := by
  obtain ⟨⟨a⟩⟩ := a
  obtain ⟨⟨b⟩⟩ := b
  simp only at h
  subst h; rfl
/-- The hash of which a ref is the text. -/
def hashR (r : ByteArray) : Option ByteArray := (cutN r).bind (hashB r)
def hashesT (n : NodeT) : List ByteArray := n.refs.filterMap hashR
theorem hashR_nil : hashR ⟨#[]⟩ = none := by
  unfold hashR cutN
  rw [dif_neg (by decide)]; rfl
theorem hashR_text {h : ByteArray} (hs : h.size = 32) : hashR (textB h) = some h := by
  obtain ⟨r, h1, h2⟩ := hash_text h hs
  unfold hashR; rw [h1]; exact h2
theorem hashR_inl {I : ByteArray → NodeT → Prop} (HI : InlP I) {r : ByteArray} {m : NodeT} (h : I r m) : hashR r = none := by
  obtain ⟨q, h1, h2⟩ := HI.nohash r m h
  unfold hashR; rw [h1]; exact h2
theorem hashR_kid {f : Nat} {T : PT} {n : NodeT} (h : Stands f T n) : (hashR (refB T.text)).toList = (heldK T).map fun k => shaB k.text := by
  by_cases hs : T.text.size < 32
  · rw [hashR_inl (inlP (f + 1)) (h.may.2 hs)]
    unfold heldK; rw [if_pos hs]; rfl
  · rw [refB_big hs, hashR_text (shaB_size _)]
    unfold heldK; rw [if_neg hs]; rfl
theorem hashes_no (k : Nat) : (noRefs k).filterMap hashR = [] := by
  unfold noRefs
  rw [List.filterMap_eq_nil_iff]
  intro r hr
  rw [List.eq_of_mem_replicate hr, hashR_nil]
theorem filter_flat {α : Type} (g : α → ByteArray) (k : α → List PT) : ∀ L : List α, (∀ i ∈ L, (hashR (g i)).toList = (k i).map fun k => shaB k.text) → (L.map g).filterMap hashR = (L.flatMap k).map fun k => shaB k.text
  | [], _ => rfl
  | x :: L, h => by
    rw [List.map_cons, List.flatMap_cons, List.map_append, ← filter_flat g k L fun i hi => h i (List.mem_cons_of_mem _ hi), ← h x List.mem_cons_self, List.filterMap_cons]
    cases hashR (g x) <;> rfl
theorem hashes_below (f : Nat) (l : List Pair) (h : RowsOk f l) : hashesT (nodeF (buildT f) l) = (belowF (buildT f) l).map fun k => shaB k.text := by
  unfold hashesT
  by_cases h0 : l.length = 0
  · have e1 : nodeF (buildT f) l = emptyN := by unfold nodeF; rw [if_pos h0]
    have e2 : belowF (buildT f) l = [] := by unfold belowF; rw [if_pos (by omega)]
    rw [e1, e2]; exact hashes_no 16
  by_cases h1 : l.length = 1
  · have e1 : nodeF (buildT f) l = ⟨1, (l.getD 0 pd).1, (l.getD 0 pd).2, noRefs 16⟩ := by unfold nodeF; rw [if_neg h0, if_pos h1]
    have e2 : belowF (buildT f) l = [] := by unfold belowF; rw [if_pos (by omega)]
    rw [e1, e2]; exact hashes_no 16
  have h2 : 2 ≤ l.length := by omega
  cases f with
  | zero => have := rows_one h; omega
  | succ f =>
    by_cases hk : 0 < comK l
    · have hcom := com_all h h2
      have hok : RowsOk f (dropL (comK l) l) := (dropL_ok (comK l) h (fun p hp q hq => (hcom p hp).1.trans (hcom q hq).1.symm) (fun p hp => (hcom p hp).2)).mono (by omega)
      have hne : dropL (comK l) l ≠ [] := fun e => by have := dropL_len (comK l) l; rw [e] at this; simp at this; omega
      have hst := (good f _ hok).2.1 hne
      have e1 : nodeF (buildT (f + 1)) l = ⟨2, (l.getD 0 pd).1.extract 0 (comK l), ⟨#[]⟩, refB (buildT (f + 1) (dropL (comK l) l)).text :: noRefs 15⟩ := by unfold nodeF; rw [if_neg h0, if_neg h1, if_pos hk]
      have e2 : belowF (buildT (f + 1)) l = heldK (buildT (f + 1) (dropL (comK l) l)) := by unfold belowF; rw [if_neg (by omega), if_pos hk]
      rw [e1, e2, ← hashR_kid hst]
      show (refB (buildT (f + 1) (dropL (comK l) l)).text :: noRefs 15).filterMap hashR = _
      rw [List.filterMap_cons, hashes_no]
      cases hashR (refB (buildT (f + 1) (dropL (comK l) l)).text) <;> rfl
    · have e1 : (nodeF (buildT (f + 1)) l).refs = (List.range 16).map fun i => if (cutL i l).length = 0 then ⟨#[]⟩ else refB (buildT (f + 1) (dropL 1 (cutL i l))).text := by unfold nodeF; rw [if_neg h0, if_neg h1, if_neg hk]
      have e2 : belowF (buildT (f + 1)) l = (List.range 16).flatMap fun i => if (cutL i l).length = 0 then [] else heldK (buildT (f + 1) (dropL 1 (cutL i l))) := by unfold belowF; rw [if_neg (by omega), if_neg hk]
      rw [e1, e2]
      refine filter_flat _ _ _ fun i hi => ?_
      by_cases hc : (cutL i l).length = 0
      · rw [if_pos hc, if_pos hc, hashR_nil]; rfl
      · rw [if_neg hc, if_neg hc]
        exact hashR_kid ((good f _ (sub_ok i h)).2.1 (fun e => by have := dropL_len 1 (cutL i l); rw [e] at this; simp at this; omega))
theorem below_kid {f : Nat} {l : List Pair} (h : RowsOk f l) {K : PT} (hK : K ∈ belowF (buildT f) l) : ∃ g m, f = g + 1 ∧ K = buildT (g + 1) m ∧ RowsOk g m ∧ 32 ≤ K.text.size := by
  have held : ∀ {T : PT}, K ∈ heldK T → K = T ∧ 32 ≤ K.text.size := fun {T} h => by
    unfold heldK at h
    split at h
    · cases h
    · rw [List.mem_singleton] at h; subst h; exact ⟨rfl, by omega⟩
  unfold belowF at hK
  by_cases h1 : l.length ≤ 1
  · rw [if_pos h1] at hK; cases hK
  rw [if_neg h1] at hK
  cases f with
  | zero => have := rows_one h; omega
  | succ f =>
    by_cases hk : 0 < comK l
    · rw [if_pos hk] at hK
      have hcom := com_all h (by omega)
      have hok : RowsOk f (dropL (comK l) l) := (dropL_ok (comK l) h (fun p hp q hq => (hcom p hp).1.trans (hcom q hq).1.symm) (fun p hp => (hcom p hp).2)).mono (by omega)
      obtain ⟨e, hs⟩ := held hK
      exact ⟨f, _, rfl, e, hok, hs⟩
    · rw [if_neg hk] at hK
      obtain ⟨i, _, hK⟩ := List.mem_flatMap.1 hK
      split at hK
      · cases hK
      · obtain ⟨e, hs⟩ := held hK
        exact ⟨f, _, rfl, e, sub_ok i h, hs⟩
def IsNode (t : ByteArray) (n : NodeT) : Prop := t = nodeB n ∧ ∃ g, GoodW (InlD g) n
structure ClosedP (L B : List ByteArray) : Prop where
  node : ∀ t ∈ L, ∃ n, IsNode t n ∧ ∀ h ∈ hashesT n, ∃ t' ∈ L, h = shaB t'
  told : ∀ t ∈ B, 32 ≤ t.size ∧ ∃ t' ∈ L, ∃ n, IsNode t' n ∧ shaB t ∈ hashesT n
theorem closed : ∀ (f : Nat) (l : List Pair), RowsOk f l → ClosedP (flatT (buildT (f + 1) l)) (flatTs (belowF (buildT f) l)) := by
  intro f
  induction f with
  | zero =>
    intro l h
    have e2 : belowF (buildT 0) l = [] := by have := rows_one h; unfold belowF; rw [if_pos (by omega)]
    have eT : flatT (buildT (0 + 1) l) = [nodeB (nodeF (buildT 0) l)] := by
      show flatT (.mk (nodeB (nodeF (buildT 0) l)) (belowF (buildT 0) l)) = _
      rw [flatT, e2]; simp [flatTs]
    have hh := hashes_below 0 l h
    rw [e2] at hh
    rw [eT, e2]
    refine ⟨fun t ht => ?_, fun t ht => by simp [flatTs] at ht⟩
    rw [List.mem_singleton] at ht
    exact ⟨_, ⟨ht, 0, (good 0 l h).1⟩, fun x hx => by rw [hh] at hx; cases hx⟩
  | succ f ih =>
    intro l h
    have eT : flatT (buildT (f + 1 + 1) l) = nodeB (nodeF (buildT (f + 1)) l) :: flatTs (belowF (buildT (f + 1)) l) := by
      show flatT (.mk (nodeB (nodeF (buildT (f + 1)) l)) (belowF (buildT (f + 1)) l)) = _
      rw [flatT]
    have hh := hashes_below (f + 1) l h
    have hroot : IsNode (nodeB (nodeF (buildT (f + 1)) l)) (nodeF (buildT (f + 1)) l) := ⟨rfl, f + 1, (good (f + 1) l h).1⟩
    have hsub : ∀ {K : PT}, K ∈ belowF (buildT (f + 1)) l → ∀ t ∈ flatT K, t ∈ flatT (buildT (f + 1 + 1) l) := fun {K} hK t ht => by
      rw [eT]; exact List.mem_cons_of_mem _ (flatTs_mem.2 ⟨K, hK, ht⟩)
    have hkid : ∀ {K : PT}, K ∈ belowF (buildT (f + 1)) l → ∃ m, K = buildT (f + 1) m ∧ RowsOk f m ∧ 32 ≤ K.text.size := fun {K} hK => by
      obtain ⟨g, m, e, h1, h2, h3⟩ := below_kid h hK
      obtain rfl : f = g := by omega
      exact ⟨m, h1, h2, h3⟩
    constructor
    · intro t ht
      rw [eT] at ht
      rcases List.mem_cons.1 ht with rfl | ht
      · refine ⟨_, hroot, fun x hx => ?_⟩
        rw [hh] at hx
        obtain ⟨K, hK, rfl⟩ := List.mem_map.1 hx
        exact ⟨_, hsub hK _ (text_mem K), rfl⟩
      · obtain ⟨K, hK, ht⟩ := flatTs_mem.1 ht
        obtain ⟨m, rfl, hm, _⟩ := hkid hK
        obtain ⟨n, h1, h2⟩ := (ih m hm).node t ht
        exact ⟨n, h1, fun x hx => by obtain ⟨t', ht', e⟩ := h2 x hx; exact ⟨t', hsub hK _ ht', e⟩⟩
    · intro t ht
      obtain ⟨K, hK, ht⟩ := flatTs_mem.1 ht
      obtain ⟨m, rfl, hm, h32⟩ := hkid hK
      have eK : flatT (buildT (f + 1) m) = nodeB (nodeF (buildT f) m) :: flatTs (belowF (buildT f) m) := by
        show flatT (.mk (nodeB (nodeF (buildT f) m)) (belowF (buildT f) m)) = _
        rw [flatT]
      rw [eK] at ht
      rcases List.mem_cons.1 ht with rfl | ht
      · refine ⟨h32, _, ?_, _, hroot, ?_⟩
        · rw [eT]; exact List.mem_cons_self
        · rw [hh]; exact List.mem_map.2 ⟨_, hK, rfl⟩
      · obtain ⟨h1, t', ht', n, h2, h3⟩ := (ih m hm).told t ht
        exact ⟨h1, t', hsub hK _ ht', n, h2, h3⟩
theorem firsts_nodup (l : List ByteArray) : (firsts l).Nodup := by
  unfold firsts
  have : ∀ (l acc : List ByteArray), acc.Nodup → (l.foldl addF acc).Nodup := fun l => by
    induction l with
    | nil => exact fun _ h => h
    | cons x r ih =>
      intro acc h
      rw [List.foldl_cons]
      refine ih _ ?_
      unfold addF
      split
      · exact h
      · rename_i hn
        have hm : x ∉ acc := fun hx => hn ((memB_iff acc x).2 hx)
        rw [List.nodup_append]
        exact ⟨h, by simp, fun a ha b hb e => by simp at hb; subst hb; subst e; exact hm ha⟩
  exact this l [] (by simp)
/-- The texts of a map's nodes: what CanonClosed asks of them. -/
structure TextsP (L : List ByteArray) (top : ByteArray) : Prop where
  head : L[0]? = some top
  nodup : L.Nodup
  node : ∀ t ∈ L, ∃ n, IsNode t n ∧ ∀ h ∈ hashesT n, ∃ t' ∈ L, h = shaB t'
  told : ∀ (i : Nat) t, L[i + 1]? = some t → 32 ≤ t.size ∧ ∃ t' ∈ L, ∃ n, IsNode t' n ∧ shaB t ∈ hashesT n
theorem texts {l : List Pair} (h : checkN l = 0) : TextsP (firsts (flatT (trieT l))) (trieT l).text := by
  have hc := closed 12 (rowsL l) (rows_ok (check_ok h))
  have eT : flatT (trieT l) = (trieT l).text :: flatTs (belowF (buildT 12) (rowsL l)) := by
    show flatT (.mk (nodeB (nodeF (buildT 12) (rowsL l))) (belowF (buildT 12) (rowsL l))) = _
    rw [flatT]; rfl
  have hc : ClosedP (flatT (trieT l)) (flatTs (belowF (buildT 12) (rowsL l))) := hc
  have hnd := firsts_nodup (flatT (trieT l))
  refine ⟨flatT_head _, hnd, fun t ht => ?_, fun i t ht => ?_⟩
  · obtain ⟨n, h1, h2⟩ := hc.node t ((firsts_mem _ _).1 ht)
    exact ⟨n, h1, fun x hx => by obtain ⟨t', ht', e⟩ := h2 x hx; exact ⟨t', (firsts_mem _ _).2 ht', e⟩⟩
  · have hm := (firsts_mem _ _).1 (List.mem_of_getElem? ht)
    have hne : t ≠ (trieT l).text := fun e => by
      have h0 := flatT_head (trieT l)
      obtain ⟨h1, e1⟩ := List.getElem?_eq_some_iff.1 ht
      obtain ⟨h2, e2⟩ := List.getElem?_eq_some_iff.1 h0
      exact List.pairwise_iff_getElem.1 hnd 0 (i + 1) h2 h1 (by omega) (e2.trans (e.symm.trans e1.symm))
    rw [eT] at hm
    rcases List.mem_cons.1 hm with e | hm
    · exact absurd e hne
    · obtain ⟨h1, t', ht', n, h2⟩ := hc.told t hm
      exact ⟨h1, t', (firsts_mem _ _).2 ht', n, h2⟩
theorem isNode_inj (w : World) {t : ByteArray} {n m : NodeT} (h : IsNode t n) (k : IsNode t m) : n = m := by
  obtain ⟨h1, f, h2⟩ := h
  obtain ⟨k1, g, k2⟩ := k
  exact nodeB_inj w h2 k2 (h1.symm.trans k1)
end
end Go.Proofs.YtneojlgbcaejmaaGreatDoor
