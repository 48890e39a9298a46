/- Parts of the proof, one behind the other: CanonH, CanonI, CanonJ, CanonK, CanonL, CanonM, CanonN, CanonO, TextsA. Each is under no condition but those that it states. -/
import Derived.Test.YtjogjmffkmfmbaaGreatDoorPc18
/- canon: build. -/
namespace Go.Proofs.YtjogjmffkmfmbaaGreatDoor
section
open Go Go.RowKit
set_option linter.unusedSimpArgs false
set_option linter.unusedVariables false
end
end Go.Proofs.YtjogjmffkmfmbaaGreatDoor
/- canon: build of two rows or more. -/
namespace Go.Proofs.YtjogjmffkmfmbaaGreatDoor
section
open Go Go.RowKit
set_option linter.unusedSimpArgs false
set_option linter.unusedVariables false
end
end Go.Proofs.YtjogjmffkmfmbaaGreatDoor
/- canon: build of rows that begin apart. -/
namespace Go.Proofs.YtjogjmffkmfmbaaGreatDoor
section
open Go Go.RowKit
set_option linter.unusedSimpArgs false
set_option linter.unusedVariables false
end
end Go.Proofs.YtjogjmffkmfmbaaGreatDoor
/- canon: build, Top, Root. -/
namespace Go.Proofs.YtjogjmffkmfmbaaGreatDoor
section
open Go Go.RowKit
set_option linter.unusedSimpArgs false
set_option linter.unusedVariables false
set_option maxRecDepth 100000 in
theorem nib_hi (b : UInt8) : (b >>> 4).toNat = b.toNat / 16 := by
  have : ∀ c : Fin 256, (UInt8.ofNat c.1 >>> 4).toNat = c.1 / 16 := by decide
  have h := this ⟨b.toNat, b.toNat_lt⟩
  simpa using h
set_option maxRecDepth 100000 in
theorem nib_lo (b : UInt8) : (b &&& 15).toNat = b.toNat % 16 := by
  have : ∀ c : Fin 256, (UInt8.ofNat c.1 &&& 15).toNat = c.1 % 16 := by decide
  have h := this ⟨b.toNat, b.toNat_lt⟩
  simpa using h
theorem path_valid (s : ByteArray) : validN (pathB s) = true := by
  unfold validN pathB
  rw [List.all_eq_true]
  intro x hx
  have hx : x ∈ pathL s.data.toList := hx
  unfold pathL at hx
  obtain ⟨b, _, hb⟩ := List.mem_flatMap.1 hx
  have h1 := nib_hi b
  have h2 := nib_lo b
  have h3 := b.toNat_lt
  have h15 : (15 : UInt8).toNat = 15 := rfl
  refine decide_eq_true (UInt8.le_iff_toNat_le.2 ?_)
  rcases List.mem_cons.1 hb with rfl | hb
  · omega
  · rw [List.mem_singleton.1 hb]; omega
end
end Go.Proofs.YtjogjmffkmfmbaaGreatDoor
/- canon: tell, all. -/
namespace Go.Proofs.YtjogjmffkmfmbaaGreatDoor
section
open Go Go.RowKit
set_option linter.unusedSimpArgs false
set_option linter.unusedVariables false
attribute [local go_sem] Oper.semAt_some
/-- A part with its places. -/
inductive AT where
  | mk (b : Nat) (text : ByteArray) (v : Value) (kids : List AT)
def AT.root : AT → Nat | .mk b _ _ _ => b
mutual
def AtIs (A : Nat → Prop) : AT → World → Prop
  | .mk b t v ks, W => A b ∧ Blk W b (.cells #[.string t, v] 179) ∧ RdQ A W v (ks.map AT.root) ∧ AtsIs A ks W
def AtsIs (A : Nat → Prop) : List AT → World → Prop
  | [], _ => True
  | k :: ks, W => AtIs A k W ∧ AtsIs A ks W
end
mutual
theorem AtIs.keeps {A : Nat → Prop} {F : BSet} {W W' : World} (k : Keeps F W W') (hF : ∀ x, A x → ¬ F x) : ∀ (a : AT), AtIs A a W → AtIs A a W'
  | .mk b t v ks, h => by
    unfold AtIs at *
    obtain ⟨h1, h2, h3, h4⟩ := h
    exact ⟨h1, h2.keeps k (hF b h1), h3.keeps k hF, AtsIs.keeps k hF ks h4⟩
theorem AtsIs.keeps {A : Nat → Prop} {F : BSet} {W W' : World} (k : Keeps F W W') (hF : ∀ x, A x → ¬ F x) : ∀ (ks : List AT), AtsIs A ks W → AtsIs A ks W'
  | [], _ => by unfold AtsIs; trivial
  | x :: ks, h => by
    unfold AtsIs at *
    exact ⟨AtIs.keeps k hF x h.1, AtsIs.keeps k hF ks h.2⟩
end
theorem AtsIs.get {A : Nat → Prop} {W : World} : ∀ (ks : List AT) (j : Nat) (a : AT), AtsIs A ks W → ks[j]? = some a → AtIs A a W
  | [], j, a, _, h => by simp at h
  | x :: ks, 0, a, h, hj => by simp at hj; subst hj; unfold AtsIs at h; exact h.1
  | x :: ks, j + 1, a, h, hj => by unfold AtsIs at h; exact AtsIs.get ks j a h.2 (by simpa using hj)
/-- L, from p on, begins with m. -/
def Begins (L m : List ByteArray) (p : Nat) : Prop := ∀ j x, m[j]? = some x → L[p + j]? = some x
theorem Begins.left {L m n : List ByteArray} {p : Nat} (h : Begins L (m ++ n) p) : Begins L m p := fun j x hx => h j x (by rw [List.getElem?_append_left (List.getElem?_eq_some_iff.1 hx).1]; exact hx)
theorem Begins.right {L m n : List ByteArray} {p : Nat} (h : Begins L (m ++ n) p) : Begins L n (p + m.length) := fun j x hx => by
  have := h (m.length + j) x (by rw [List.getElem?_append_right (by omega), Nat.add_sub_cancel_left]; exact hx)
  rw [Nat.add_assoc]; exact this
theorem Begins.le {L m : List ByteArray} {p : Nat} (h : Begins L m p) (hm : m ≠ []) : p + m.length ≤ L.length := by
  have hl : 0 < m.length := List.length_pos_iff.2 hm
  have := h (m.length - 1) _ (List.getElem?_eq_getElem (by omega))
  have := (List.getElem?_eq_some_iff.1 this).1
  omega
end
end Go.Proofs.YtjogjmffkmfmbaaGreatDoor
/- canon: all, its iterator; what Nodes counts. -/
namespace Go.Proofs.YtjogjmffkmfmbaaGreatDoor
section
open Go Go.RowKit
set_option linter.unusedSimpArgs false
set_option linter.unusedVariables false
attribute [local go_sem] Oper.semAt_some
def memB (acc : List ByteArray) (x : ByteArray) : Bool := (acc.map (·.data.toList)).contains x.data.toList
theorem memB_iff (acc : List ByteArray) (x : ByteArray) : memB acc x = true ↔ x ∈ acc := by
  unfold memB
  rw [List.contains_iff_mem, List.mem_map]
  exact ⟨fun ⟨y, hy, e⟩ => by rw [← show y = x from ByteArray.ext (Array.ext' e)]; exact hy, fun h => ⟨x, h, rfl⟩⟩
def addF (acc : List ByteArray) (x : ByteArray) : List ByteArray := if memB acc x = true then acc else acc ++ [x]
/-- The texts of a list, each once. -/
def firsts (l : List ByteArray) : List ByteArray := l.foldl addF []
theorem addF_mem (acc : List ByteArray) (x y : ByteArray) : y ∈ addF acc x ↔ y ∈ acc ∨ y = x := by
  unfold addF; split
  · rename_i h; exact ⟨.inl, fun h' => h'.elim id (fun e => e ▸ (memB_iff _ _).1 h)⟩
  · simp
theorem firsts_mem (l : List ByteArray) (y : ByteArray) : y ∈ firsts l ↔ y ∈ l := by
  unfold firsts
  suffices ∀ acc, y ∈ l.foldl addF acc ↔ y ∈ acc ∨ y ∈ l by simpa using this []
  induction l with
  | nil => intro acc; simp
  | cons x r ih => intro acc; rw [List.foldl_cons, ih, addF_mem, List.mem_cons]; exact or_assoc
theorem firsts_snoc (l : List ByteArray) (x : ByteArray) : firsts (l ++ [x]) = addF (firsts l) x := by
  unfold firsts; rw [List.foldl_append]; rfl
theorem entGet_put {K : Type} [DecidableEq K] (k : K) (v : Value) (n : Nat) (k' : K) : ∀ (l : List (Ent K)), entGet (entPut l k v n) k' = if k' = k then some v else entGet l k'
  | [] => by
    by_cases h : k' = k
    · subst h; simp [entPut, entGet]
    · simp [entPut, entGet, h]
  | x :: r => by
    have ih := entGet_put k v n k' r
    unfold entPut
    by_cases hk : k = x.1
    · rw [if_pos hk]
      by_cases h : k' = k
      · subst h; simp [entGet]
      · have h2 : ¬ k' = x.1 := fun e => h (e.trans hk.symm)
        simp [entGet, h, h2]
    · rw [if_neg hk]
      by_cases h : k' = x.1
      · have h2 : ¬ k' = k := fun e => hk (e.symm.trans h)
        rw [if_neg h2]; simp [entGet, h]
      · have e1 : ∀ l, entGet (x :: l) k' = entGet l k' := fun l => by simp [entGet, h]
        rw [e1, e1, ih]
def cntB (l : List ByteArray) (x : ByteArray) : Nat := (l.map (·.data.toList)).count x.data.toList
def cntV (n : Nat) : Option Value := if n = 0 then none else some (.int .i64 (n : Int))
theorem Tryz.uMapSI : Tryz.prog.underlying 131 = some (.map 9 3) := by kernel_rfl
noncomputable abbrev Tryz.ES : KeyEnc Tryz.prog 9 (List UInt8) := keyStr Tryz.uStr
theorem Tryz.zeroI (w : World) : (zeroValue 3).run Tryz.prog w = .ok (.int .i64 0) w := by kernel_rfl
/-- What Nodes has behind k texts. -/
structure NodS (w : World) (g m : Nat) (A : Nat → Prop) (bx : Nat) (a : AT) (L : List ByteArray) (k : Nat) (W : World) : Prop where
  ext : Ext w W
  var : ∃ v n, Blk W g (.cells #[v] 22) ∧ W.ownsRow 0 9 1 v n ((firsts (L.take k)).map Value.string) ∧ n ≤ k ∧ ∀ b, v.ownBlock = some b → m + 2 ≤ b
  tab : ∃ es ck, Blk W (g + 1) (.map (Tryz.ES.arr es) ck) ∧ ∀ x : ByteArray, entGet es x.data.toList = cntV (cntB (L.take k) x)
  mv : Blk W (g + 2) (.cells #[.map (some (g + 1))] 131)
  box : Blk W bx (.cells #[ptrV a.root] 134)
  at' : AtIs A a W
theorem NodS.st {w : World} {g m : Nat} {A : Nat → Prop} {bx : Nat} {a : AT} {L : List ByteArray} {k : Nat} {W W' : World} (h : NodS w g m A bx a L k W) (e : Ext W W') : NodS w g m A bx a L k W' :=
  let ⟨v, n, h1, h2, h3, h4⟩ := h.var
  let ⟨es, ck, h5, h6⟩ := h.tab
  ⟨h.ext.trans e, ⟨v, n, h1.keeps e (fun h => h), own_ext h2 e, h3, h4⟩, ⟨es, ck, h5.keeps e (fun h => h), h6⟩, h.mv.keeps e (fun h => h), h.box.keeps e (fun h => h), AtIs.keeps e (fun _ _ h => h) a h.at'⟩
theorem NodS.put {w : World} {g m : Nat} {A : Nat → Prop} {bx : Nat} {a : AT} {L : List ByteArray} {k : Nat} {W : World} (h : NodS w g m A bx a L k W) {r : Nat} (hr : w.heap.size ≤ r) (h1 : g + 2 < r) (h2 : r < m + 2) (h3 : bx ≠ r) (h4 : ∀ x, A x → x ≠ r) (o : Obj) : NodS w g m A bx a L k (W.putObj r o) :=
  let ⟨v, n, h5, h6, h7, h8⟩ := h.var
  let ⟨es, ck, h9, h10⟩ := h.tab
  ⟨h.ext.putObj (.inr hr) _, ⟨v, n, h5.put_other (by omega) _, own_keeps h6 (Keeps.onePut W r o) (fun b hb e => by have := h8 b hb; omega), h7, h8⟩, ⟨es, ck, h9.put_other (by omega) _, h10⟩, h.mv.put_other (by omega) _, h.box.put_other h3 _,
    AtIs.keeps (Keeps.onePut W r o) (fun x hx e => h4 x hx e) a h.at'⟩
end
end Go.Proofs.YtjogjmffkmfmbaaGreatDoor
/- canon, plain law: how many texts a trie has. -/
namespace Go.Proofs.YtjogjmffkmfmbaaGreatDoor
section
open Go Go.RowKit
set_option linter.unusedSimpArgs false
set_option linter.unusedVariables false
def hN (L : List UInt8) (n : Nat) : Nat := match L with | [] => 0 | a :: _ => if a.toNat < n then 1 else 0
end
end Go.Proofs.YtjogjmffkmfmbaaGreatDoor
/- canon: Nodes. -/
namespace Go.Proofs.YtjogjmffkmfmbaaGreatDoor
section
open Go Go.RowKit
set_option linter.unusedSimpArgs false
set_option linter.unusedVariables false
attribute [local go_sem] Oper.semAt_some
theorem Tryz.makeMapSI (W : World) : (Instr.makeMap 131 none).run Tryz.prog W = .ok (.map (some W.heap.size)) (W.alloc (.map #[] 0)) := by kernel_rfl
end
end Go.Proofs.YtjogjmffkmfmbaaGreatDoor
/- canon, plain: the texts of a trie, and what they refer to. -/
namespace Go.Proofs.YtjogjmffkmfmbaaGreatDoor
section
open Go Go.RowKit
set_option linter.unusedSimpArgs false
set_option linter.unusedVariables false
/-- Two contracts on one call speak of one end. -/
theorem agree {P : Program} {f : FuncId} {args : Array Value} {w : World} {R R' : Value → World → Prop}
    (h : Calls P f args w fun | .returned v, w' => R v w' | _, _ => False) (h' : Calls P f args w fun | .returned v, w' => R' v w' | _, _ => False) (hi : P.inits.idxOf? f = none) :
    ∃ v w', R v w' ∧ R' v w' := by
  obtain ⟨n, v, w1, e1, r1⟩ := h.done hi
  obtain ⟨m, v', w2, e2, r2⟩ := h'.done hi
  have a := runN_ended e1 m
  have b := runN_ended e2 n
  rw [Nat.add_comm, a] at b
  injection b with ho hw
  injection ho with hv
  subst hv hw
  exact ⟨_, _, r1, r2⟩
theorem agree_eq {P : Program} {f : FuncId} {args : Array Value} {w : World} {a b : Value} {R R' : World → Prop}
    (h : Calls P f args w fun e w' => e = .returned a ∧ R w') (h' : Calls P f args w fun e w' => e = .returned b ∧ R' w') (hi : P.inits.idxOf? f = none) : a = b := by
  obtain ⟨v, w', h1, h2⟩ := agree (R := fun v _ => v = a) (R' := fun v _ => v = b)
    (h.mono fun e w' hh => by obtain ⟨rfl, _⟩ := hh; rfl) (h'.mono fun e w' hh => by obtain ⟨rfl, _⟩ := hh; rfl) hi
  exact h1.symm.trans h2
theorem nodeV_inj {n m : NodeT} (h : n.V = m.V) : n = m := by
  obtain ⟨k, p, v, rs⟩ := n
  obtain ⟨k', p', v', rs'⟩ := m
  unfold NodeT.V NodeT.cells at h
  injection h with h
  have h := congrArg Array.toList h
  simp only [List.toList_toArray, List.cons.injEq, Value.int.injEq, Value.string.injEq] at h
  obtain ⟨⟨_, h1⟩, h2, h3, h4⟩ := h
  have h5 : rs = rs' := by
    have : ∀ a b : List ByteArray, a.map Value.string = b.map Value.string → a = b := fun a => by
      induction a with
      | nil => intro b hb; cases b with | nil => rfl | cons x y => cases hb
      | cons x r ih =>
        intro b hb
        cases b with
        | nil => cases hb
        | cons y t =>
          simp only [List.map_cons, List.cons.injEq, Value.string.injEq] at hb
          rw [hb.1, ih t hb.2]
    exact this _ _ h4
  have h1 : k = k' := by omega
  subst h1 h2 h3 h5; rfl
theorem nodeB_inj (w : World) {f g : Nat} {n m : NodeT} (hn : GoodW (InlD f) n) (hm : GoodW (InlD g) m) (h : nodeB n = nodeB m) : n = m := by
  have h1 := get_c4 (inlP f) w n hn
  have h2 := get_c4 (inlP g) w m hm
  rw [h] at h1
  have := agree_eq h1 h2 (by kernel_rfl)
  injection this with this
  have := congrArg Array.toList this
  simp only [List.toList_toArray, List.cons.injEq] at this
  exact nodeV_inj this.1
/-- The hash of which a ref is the text. -/
def hashR (r : ByteArray) : Option ByteArray := (cutN r).bind (hashB r)
def hashesT (n : NodeT) : List ByteArray := n.refs.filterMap hashR
theorem hashR_nil : hashR ⟨#[]⟩ = none := by
  unfold hashR cutN
  rw [dif_neg (by decide)]; rfl
theorem hashR_inl {I : ByteArray → NodeT → Prop} (HI : InlP I) {r : ByteArray} {m : NodeT} (h : I r m) : hashR r = none := by
  obtain ⟨q, h1, h2⟩ := HI.nohash r m h
  unfold hashR; rw [h1]; exact h2
theorem hashes_no (k : Nat) : (noRefs k).filterMap hashR = [] := by
  unfold noRefs
  rw [List.filterMap_eq_nil_iff]
  intro r hr
  rw [List.eq_of_mem_replicate hr, hashR_nil]
def IsNode (t : ByteArray) (n : NodeT) : Prop := t = nodeB n ∧ ∃ g, GoodW (InlD g) n
theorem firsts_nodup (l : List ByteArray) : (firsts l).Nodup := by
  unfold firsts
  have : ∀ (l acc : List ByteArray), acc.Nodup → (l.foldl addF acc).Nodup := fun l => by
    induction l with
    | nil => exact fun _ h => h
    | cons x r ih =>
      intro acc h
      rw [List.foldl_cons]
      refine ih _ ?_
      unfold addF
      split
      · exact h
      · rename_i hn
        have hm : x ∉ acc := fun hx => hn ((memB_iff acc x).2 hx)
        rw [List.nodup_append]
        exact ⟨h, by simp, fun a ha b hb e => by simp at hb; subst hb; subst e; exact hm ha⟩
  exact this l [] (by simp)
/-- The texts of a map's nodes: what CanonClosed asks of them. -/
structure TextsP (L : List ByteArray) (top : ByteArray) : Prop where
  head : L[0]? = some top
  nodup : L.Nodup
  node : ∀ t ∈ L, ∃ n, IsNode t n ∧ ∀ h ∈ hashesT n, ∃ t' ∈ L, h = shaB t'
  told : ∀ (i : Nat) t, L[i + 1]? = some t → 32 ≤ t.size ∧ ∃ t' ∈ L, ∃ n, IsNode t' n ∧ shaB t ∈ hashesT n
theorem isNode_inj (w : World) {t : ByteArray} {n m : NodeT} (h : IsNode t n) (k : IsNode t m) : n = m := by
  obtain ⟨h1, f, h2⟩ := h
  obtain ⟨k1, g, k2⟩ := k
  exact nodeB_inj w h2 k2 (h1.symm.trans k1)
end
end Go.Proofs.YtjogjmffkmfmbaaGreatDoor
