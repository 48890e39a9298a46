/- The feed: Clone of changes, and put. -/
import Derived.Test.YtdempgabidbjfaaFeedF
import Derived.WalkSpells
namespace Go.Proofs.Ytdempgabidbjfaa
open Go Go.RowKit
set_option linter.unusedSimpArgs false
set_option linter.unusedVariables false

theorem Try.uCh : Try.prog.underlying 29 = some (.slice 61) := by kernel_rfl
theorem Try.infoC : (Try.prog.info? 61).map (fun i => (i.zero, i.size, i.bytes)) = some (some (.agg #[.string ⟨#[]⟩, .string ⟨#[]⟩, .bool false]), 3, 40) := by kernel_rfl

/-- Changes as the law pushes them: none, or one. -/
def ChgOk (w : World) (v : Value) : Prop :=
  v = .slice none 0 0 ∨ ∃ b c0 c1 c2, v = .slice (some ⟨b, 0, none⟩) 1 1 ∧ Blk w b (.cells #[str c0, str c1, .bool c2] 61)

set_option maxHeartbeats 400000 in
theorem clone_c (w : World) (v : Value) (hv : ChgOk w v) : Calls Try.prog 25 #[v] w fun e w' => (∃ a n c, e = .returned (.slice a n c)) ∧ Ext w w' := by
  have hnil := fun (W : World) a n c => Lib.run_eql_slice_nil (P := Try.prog) W 29 61 a n c 0 0 Try.uCh
  rcases hv with rfl | ⟨b, c0, c1, c2, rfl, hb⟩
  · go_enter Try.func25, Try.ntmps25
    go_wp2
    go_ret
    exact ⟨⟨_, _, _, rfl⟩, Keeps.refl _ _⟩
  · obtain ⟨i0, hi, hz0, hz1, hz2⟩ := info_parts Try.infoC
    have hlt := hb.lt
    go_enter Try.func25, Try.ntmps25
    go_wp2_with (at_builtin; refine wpList_append_any _ rfl (.tmp 5) (.tmp 6) 29 rfl 61 i0 _ 3 40 Try.uCh hi hz0 hz1 hz2 rfl (by decide) _ 0 [] rfl ?c1 ⟨b, 0, none⟩ 1 1 [str c0, str c1, .bool c2] rfl rfl ?c2 ?c3 ?c4 ?c5 ?_)
    case c1 => exact World.ownsRow_made w #[] 0 (Nat.zero_le _) (by decide) (by simp)
    case c2 =>
      intro j u hj
      have hj' := (hb.alloc (.cells #[] 61)).cell (i := j) (v := u) (by simpa using hj)
      rw [Addr.add_lit, Nat.zero_add]; exact hj'
    case c3 => simp [Value.oneCell', str]
    case c4 => decide
    case c5 => decide
    intro v' w' o1 k1 _
    obtain ⟨a', c', rfl⟩ := row_slice o1
    have K := Lib.hid k1
    clear o1 k1
    go_wp2
    go_ret
    exact ⟨⟨_, _, _, rfl⟩, ((Keeps.refl _ w).alloc _).trans' K.out (fun x hx e => by simp [Value.ownBlock] at e; omega)⟩

/-- A queue behind a put. -/
def PutPost (w : World) (bq : Nat) (fol : Bool) (sl : Value) (ns : List Ntc) (ses : Int) (n : Ntc) (w' : World) : Prop :=
  ∃ sl' chg', Keeps (fun b => b = bq ∨ sl.ownBlock = some b) w w' ∧ Blk w' bq (.cells #[.bool fol, sl'] 56) ∧ NtcRow w' 0 sl' (ns ++ [{ n with ses := ses, chg := chg' }]) ∧ chg'.oneCell' = true ∧
    (sl'.ownBlock = sl.ownBlock ∨ ∀ b, sl'.ownBlock = some b → w.heap.size ≤ b)

set_option maxHeartbeats 1000000 in
theorem put_c (w : World) (bq bl : Nat) (fol : Bool) (sl : Value) (ns : List Ntc) (ses : Int) (n : Ntc) (hq : Blk w bq (.cells #[.bool fol, sl] 56)) (hr : NtcRow w 0 sl ns)
    (hqs : sl.ownBlock ≠ some bq) (hn : ns.length ≤ 10) (hl : Blk w bl (.cells n.cells.toArray 31)) (hc : ChgOk w n.chg) :
    Calls Try.prog 22 #[.pointer (some ⟨bq, 0, none⟩), .int .i64 ses, .slice (some ⟨bl, 0, none⟩) 1 1] w fun e w' => e = .returned (.tuple #[]) ∧ PutPost w bq fol sl ns ses n w' := by
  have st3 := fun a W => run_store Try.prog W a (str n.root) .plain rfl
  have hone : n.chg.oneCell' = true := by rcases hc with e | ⟨_, _, _, _, e, _⟩ <;> rw [e] <;> rfl
  have st4 := fun a W => run_store Try.prog W a n.chg .plain hone
  have l0 := hl.cell (i := 0) (v := .int .i64 n.ses) (by rfl)
  have l1 := hl.cell (i := 1) (v := .int .i64 n.err) (by rfl)
  have l2 := hl.cell (i := 2) (v := .int .i64 n.blk) (by rfl)
  have l3 := hl.cell (i := 3) (v := str n.root) (by rfl)
  have l4 := hl.cell (i := 4) (v := n.chg) (by rfl)
  have hll := hl.lt
  have hql := hq.lt
  have HC := Lib.hid hc
  clear hone hc
  go_enter Try.func22, Try.ntmps22
  go_wp2
  refine wp_loop_rounds 2 ?_
  rw [rounds_succ]
  go_wp2_with fail
  refine (clone_c _ _ ?_).mono ?_
  · rcases HC.out with e | ⟨b, c0, c1, c2, e, hb⟩
    · exact .inl e
    · exact .inr ⟨b, c0, c1, c2, e, hb.alloc _⟩
  rintro e w1 ⟨⟨ca, cn, cc, rfl⟩, k1⟩
  have N1 := (Blk.new w (.cells #[.int .i64 ses, .int .i64 n.err, .int .i64 n.blk, str n.root, n.chg] 31)).keeps k1 (fun g => g)
  have c4 := N1.cell (i := 4) (v := n.chg) (by rfl)
  have f4 : w1.frozen? ⟨w.heap.size, 4, none⟩ = false := N1.frozen
  have e1 : Ext w w1 := ((Keeps.refl (fun _ => False) w).alloc _).trans k1
  have Q1 := hq.keeps e1 (fun g => g)
  have R1 := row_keeps hr e1 (fun _ _ g => g)
  have N2 := Lib.hid (N1.set_same (i := 4) (.slice ca cn cc))
  have hlt1 := e1.size
  have Q2 := Lib.hid (Q1.set_other (p := ⟨w.heap.size, 4, none⟩) (by show bq ≠ w.heap.size; omega) (.slice ca cn cc))
  have R2 := Lib.hid (row_keeps R1 (Keeps.oneSet w1 ⟨w.heap.size, 4, none⟩ (.slice ca cn cc)) (fun b hb e => by have := row_lt hr hb; have e' : b = w.heap.size := e; omega))
  have K2 := Lib.hid ((e1.mono (G := fun b => b = bq ∨ sl.ownBlock = some b) (fun _ _ g => g.elim)).trans' (Keeps.oneSet w1 ⟨w.heap.size, 4, none⟩ (.slice ca cn cc)) (fun x hx e => by have e' : x = w.heap.size := e; omega))
  have S2 : (w1.setCell ⟨w.heap.size, 4, none⟩ (.slice ca cn cc)).heap.size = w1.heap.size := by simp
  have S2' := Lib.hid S2
  have lt1 := Lib.hid N1.lt
  clear k1 N1 e1 Q1 R1 hr hq hl l0 l1 l2 l3 l4 S2
  go_wp2_with fail
  obtain ⟨w2, hw2⟩ : ∃ w2, w2 = w1.setCell ⟨w.heap.size, 4, none⟩ (.slice ca cn cc) := ⟨_, rfl⟩
  rw [← hw2] at N2 Q2 R2 K2 S2' ⊢
  clear hw2 c4 f4
  have n0 := N2.out.cell (i := 0) (v := .int .i64 ses) (by rfl)
  have n1 := N2.out.cell (i := 1) (v := .int .i64 n.err) (by rfl)
  have n2 := N2.out.cell (i := 2) (v := .int .i64 n.blk) (by rfl)
  have n3 := N2.out.cell (i := 3) (v := str n.root) (by rfl)
  have n4 := N2.out.cell (i := 4) (v := (.slice ca cn cc)) (by rfl)
  have q1 := Q2.out.cell (i := 1) (v := sl) (by rfl)
  have qlt := Q2.out.lt
  obtain ⟨i0, hi, hz0, hz1, hz2⟩ := info_parts Try.infoN
  have sone : sl.oneCell' = true := row_one R2.out
  clear sone
  go_region_law (refine step_append_any _ rfl (.tmp 24) (.tmp 26) 54 rfl 31 i0 _ 5 64 Try.uNs hi hz0 hz1 hz2 rfl (by decide) sl ns.length (ns.flatMap Ntc.cells) (by simp [Act.eval, Act.put]) (World.ownsRow.alloc R2.out _) ⟨w2.heap.size, 0, none⟩ 1 1 [.int .i64 ses, .int .i64 n.err, .int .i64 n.blk, str n.root, (.slice ca cn cc)] (by simp [Act.eval, Act.put]) rfl (news_new _ _ _) (by simp [Value.oneCell', str]) (by unfold maxLen; omega) (by omega) ?_; intro v' w' r1 r2 r3; obtain ⟨a', c', rfl⟩ := row_slice r1; have Q3 := Lib.hid ((Q2.out.drew.alloc (.cells #[.int .i64 ses, .int .i64 n.err, .int .i64 n.blk, str n.root, .slice ca cn cc] 31)).keeps r2 hqs); have q3 := Q3.out.cell (i := 1) (v := sl) (by rfl); have f3 : w'.frozen? ⟨bq, 1, none⟩ = false := Q3.out.frozen; have R3 := Lib.hid r1; have K3 := Lib.hid r2; have O3 := Lib.hid r3; clear r1 r2 r3)
  all_goals
    go_wp2
    rw [rounds_succ]
    go_wp2
    go_end0
    refine ⟨rfl, .slice a' (ns.length + 1) c', .slice ca cn cc, ?_, Q3.out.set_same (i := 1) _, ?_, rfl, ?_⟩
    · exact ((K2.out.drew.alloc _).trans' K3.out (fun x _ e => .inr e)).trans' (Keeps.oneSet w' ⟨bq, 1, none⟩ _) (fun x _ e => .inl e)
    · have := row_keeps (l := ns ++ [{ n with ses := ses, chg := .slice ca cn cc }]) (base := 0) (v := .slice a' (ns.length + 1) c') (w := w') (by unfold NtcRow; simpa [List.flatMap_append, Ntc.cells] using R3.out) (Keeps.oneSet w' ⟨bq, 1, none⟩ (.slice a' (ns.length + 1) c')) (fun b hb e => by
        have e' : b = bq := e
        subst e'
        rcases O3.out with h | h
        · exact hqs (h ▸ hb)
        · have h1 := h b hb; have h2 := K2.out.size; simp at h1; omega)
      exact this
    · rcases O3.out with h | h
      · exact .inl h
      · exact .inr fun b hb => by have := h b hb; have := K2.out.size; simp at *; omega
end Go.Proofs.Ytdempgabidbjfaa
