/- The feed: its state, and the contracts of its methods that only read. -/
import Derived.Test.YtdempgabidbjfaaIter
import Derived.Test.YtdempgabidbjfaaChecked
import Derived.Deep.RegionLawGrows
import Derived.TacticsInMore
import Derived.BigFrameIn
namespace Go.Proofs.Ytdempgabidbjfaa
open Go Go.RowKit
set_option linter.unusedSimpArgs false
set_option linter.unusedVariables false

theorem Try.uNs : Try.prog.underlying 54 = some (.slice 31) := by kernel_rfl
theorem Try.uMap : Try.prog.underlying 46 = some (.map 3 53) := by kernel_rfl
theorem Try.uInt : Try.prog.underlying 3 = some (.int .i64) := by kernel_rfl
theorem Try.infoN : (Try.prog.info? 31).map (fun i => (i.zero, i.size, i.bytes)) = some (some (.agg #[.int .i64 0, .int .i64 0, .int .i64 0, .string ⟨#[]⟩, .slice none 0 0]), 5, 64) := by kernel_rfl
theorem Try.zeroQ (w : World) : (zeroValue 53).run Try.prog w = .ok (.pointer none) w := by kernel_rfl

/-- A notice, as its five cells. -/
structure Ntc where
  ses : Int
  err : Int
  blk : Int
  root : List UInt8
  chg : Value
def Ntc.cells (n : Ntc) : List Value := [.int .i64 n.ses, .int .i64 n.err, .int .i64 n.blk, str n.root, n.chg]

/-- A slice of notices. -/
def NtcRow (w : World) (base : Nat) (v : Value) (l : List Ntc) : Prop := w.ownsRow base 31 5 v l.length (l.flatMap Ntc.cells)

theorem NtcRow.slice {w : World} {base : Nat} {v : Value} {l : List Ntc} (h : NtcRow w base v l) : ∃ a cap, v = .slice a l.length cap := by
  obtain ⟨_, h | ⟨g, cap, cur, h, _⟩⟩ := h
  · exact ⟨none, 0, by rw [h.2]; exact h.1⟩
  · exact ⟨_, _, h⟩

/-- A queue: whose it is, its block, its stamp in the map, whether it follows, its slice, and what waits. -/
structure QQ where
  id : Int
  bq : Nat
  st : Nat
  fol : Bool
  sl : Value
  ns : List Ntc
def QQ.ent (q : QQ) : Ent Int := (q.id, .pointer (some ⟨q.bq, 0, none⟩), q.st)
def QQ.own (q : QQ) : List Nat := q.bq :: q.sl.ownBlock.toList
def getQ (es : List QQ) (k : Int) : Option QQ := es.find? (fun q => decide (k = q.id))
def remQ (es : List QQ) (k : Int) : List QQ := es.filter (fun q => decide (k ≠ q.id))
def setQ (es : List QQ) (k : Int) (f : QQ → QQ) : List QQ := es.map (fun q => if k = q.id then f q else q)
def nfol (es : List QQ) : Nat := (es.filter (·.fol)).length
def followsB (es : List QQ) (k : Int) : Bool := ((getQ es k).map (·.fol)).getD false
def waitsN (es : List QQ) (k : Int) : Nat := ((getQ es k).map (·.ns.length)).getD 0
/-- All blocks that a feed has. -/
def fBlocks (bf bm : Nat) (es : List QQ) : List Nat := bf :: bm :: es.flatMap QQ.own
abbrev fOwn (bf bm : Nat) (es : List QQ) : BSet := fun b => b ∈ fBlocks bf bm es

abbrev EI : KeyEnc Try.prog 3 Int := keyInt Try.uInt

structure FeedAt (w : World) (bf bm : Nat) (room : Int) (clock : Nat) (es : List QQ) : Prop where
  feed : Blk w bf (.cells #[.int .i64 room, .map (some bm)] 48)
  map : Blk w bm (.map (EI.arr (es.map QQ.ent)) clock)
  que : ∀ q ∈ es, Blk w q.bq (.cells #[.bool q.fol, q.sl] 56)
  row : ∀ q ∈ es, NtcRow w 0 q.sl q.ns
  nodup : (fBlocks bf bm es).Nodup
  ids : (es.map QQ.id).Nodup
  born : ∀ q ∈ es, q.st < clock
  stamps : (es.map QQ.st).Nodup
  lo : 1 ≤ room
  hi : room ≤ 4
  full : ∀ q ∈ es, (q.ns.length : Int) ≤ room + 1
  fols : nfol es ≤ 4
  wf : ∀ q ∈ es, (-9223372036854775808 ≤ q.id ∧ q.id ≤ 9223372036854775807)
  few : es.length ≤ 1000
  chg : ∀ q ∈ es, ∀ n ∈ q.ns, n.chg.oneCell' = true

theorem getQ_mem {es : List QQ} {k : Int} {q : QQ} (h : getQ es k = some q) : q ∈ es ∧ q.id = k := by
  unfold getQ at h
  have h2 := List.find?_some h
  exact ⟨List.mem_of_find?_eq_some h, by simpa using (of_decide_eq_true h2).symm⟩

theorem entGet_ent (es : List QQ) (k : Int) : entGet (es.map QQ.ent) k = (getQ es k).map fun q => .pointer (some ⟨q.bq, 0, none⟩) := by
  unfold entGet getQ
  rw [List.find?_map]
  simp only [Option.map_map]
  rfl

section
variable {w : World} {bf bm : Nat} {room : Int} {clock : Nat} {es : List QQ} (h : FeedAt w bf bm room clock es)
include h
theorem FeedAt.look (k : Int) : (Instr.lookup 46 (.map (some bm)) (.int .i64 k) false).run Try.prog w = .ok (((getQ es k).map fun q => Value.pointer (some ⟨q.bq, 0, none⟩)).getD (.pointer none)) w := by
  have := run_lookup EI Try.uMap h.map (Try.zeroQ w) k false
  rw [entGet_ent] at this
  exact this
theorem FeedAt.c1 : w.cell? ⟨bf, 1, none⟩ = some (.map (some bm)) := h.feed.cell (by rfl)
theorem FeedAt.c0 : w.cell? ⟨bf, 0, none⟩ = some (.int .i64 room) := h.feed.cell (by rfl)

set_option maxHeartbeats 400000 in
theorem follows_c (k : Int) : Calls Try.prog 12 #[.pointer (some ⟨bf, 0, none⟩), .int .i64 k] w fun e w' => e = .returned (.bool (followsB es k)) ∧ w' = w := by
  have hl := h.look k
  have h1 := h.c1
  cases hq : getQ es k with
  | none =>
    have H := Lib.hid (show followsB es k = false by simp [followsB, hq])
    rw [hq] at hl
    simp only [Option.map_none, Option.getD_none] at hl
    clear hq h
    go_enter Try.func12, Try.ntmps12
    go_wp2
    go_ret
    exact ⟨by rw [H.out]; rfl, rfl⟩
  | some q =>
    have hqf := (h.que q (getQ_mem hq).1).cell (i := 0) (by rfl)
    have H := Lib.hid (show followsB es k = q.fol by simp [followsB, hq])
    rw [hq] at hl
    simp only [Option.map_some, Option.getD_some] at hl
    clear hq h
    go_enter Try.func12, Try.ntmps12
    go_wp2
    go_ret
    exact ⟨by rw [H.out]; rfl, rfl⟩

set_option maxHeartbeats 400000 in
theorem waiting_c (k : Int) : Calls Try.prog 11 #[.pointer (some ⟨bf, 0, none⟩), .int .i64 k] w fun e w' => e = .returned (.int .i64 (waitsN es k)) ∧ w' = w := by
  have hl := h.look k
  have h1 := h.c1
  cases hq : getQ es k with
  | none =>
    have H := Lib.hid (show waitsN es k = 0 by simp [waitsN, hq])
    rw [hq] at hl
    simp only [Option.map_none, Option.getD_none] at hl
    clear hq h
    go_enter Try.func11, Try.ntmps11
    go_wp2
    go_ret
    exact ⟨by rw [H.out]; rfl, rfl⟩
  | some q =>
    obtain ⟨a, cap, hsl⟩ := (h.row q (getQ_mem hq).1).slice
    have hqf := (h.que q (getQ_mem hq).1).cell (i := 1) (v := .slice a q.ns.length cap) (by rw [← hsl]; rfl)
    have H := Lib.hid (show waitsN es k = q.ns.length by simp [waitsN, hq])
    rw [hq] at hl
    simp only [Option.map_some, Option.getD_some] at hl
    clear hq h hsl
    go_enter Try.func11, Try.ntmps11
    go_wp2
    go_ret
    exact ⟨by rw [H.out]; rfl, rfl⟩
end
end Go.Proofs.Ytdempgabidbjfaa
