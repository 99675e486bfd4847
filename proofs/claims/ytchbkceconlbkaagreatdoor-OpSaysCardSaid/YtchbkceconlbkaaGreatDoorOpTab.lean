/- What operations read of the library's own variables (the table of powers of ten, internal/bytealg.MaxLen); strings.Split, Contains, Join, IndexByte, strconv.FormatInt at this seat. -/
import Derived.Test.YtchbkceconlbkaaGreatDoorStrs
import Derived.Test.YtchbkceconlbkaaGreatDoorPlayKit
namespace Go.Proofs.YtchbkceconlbkaaGreatDoor
open Go.Sort (grow)
open Go Go.RowKit
set_option linter.unusedSimpArgs false
set_option linter.unusedVariables false

/-- The library's variables lie as they are laid, below block B. -/
structure OpW (B : Nat) (w : World) : Prop where
  size : B ≤ w.heap.size
  gpow : 8 < B
  gmax : 7 < B
  pow : Lib.TabIs Tryz.prog w "internal/strconv.uint64pow10" .u64 Lib.pow10Tab
  max : ∃ m, w.cell? ⟨7, 0, none⟩ = some (.int .i64 m)

theorem pow_named : Tryz.prog.globalNamed "internal/strconv.uint64pow10" = some 8 := by kernel_rfl
theorem var_block {w w' : World} {g : Nat} {n : String} (hn : Tryz.prog.globalNamed n = some g) (h : w'.heap[g]? = w.heap[g]?) : w'.var? Tryz.prog n = w.var? Tryz.prog n := by
  simp only [World.var?, hn, Option.bind_some, h]
theorem OpW.below {B : Nat} {w w' : World} (h : OpW B w) (k : Below B w w') : OpW B w' :=
  ⟨Nat.le_trans h.size k.size, h.gpow, h.gmax, (var_block pow_named (k.block _ h.gpow)).trans h.pow, by
    obtain ⟨m, hm⟩ := h.max
    exact ⟨m, (k.cell (p := ⟨7, 0, none⟩) h.gmax).trans hm⟩⟩
theorem OpW.on {B : Nat} {w w' : World} (h : OpW B w) (k : Below w.heap.size w w') : OpW B w' := h.below (k.mono h.size)

theorem extraJoin : Builder.Extra Tryz.prog Tryz.laysJoin_ren where
  sizeBuilder := by kernel_rfl
  liesBuilder := by kernel_rfl
  t5 := Tryz.underlying5
  a5 := Tryz.isAgg5
  z5 := Tryz.sizeOf5
  v5 := Tryz.zeroValue5
  infoByte := by kernel_rfl
  cellsByte := by kernel_rfl
  sizeByte := by kernel_rfl
  neB5 := by decide

theorem contains_calls {B : Nat} {w : World} (hT : OpW B w) (s sub : ByteArray) (hs : s.size < 4294967281) :
    Calls Tryz.prog 28 #[.string s, .string sub] w fun e w' => e = .returned (.bool (Lib.contains s.data.toList sub.data.toList)) ∧ w' = w := by
  obtain ⟨m, hm⟩ := hT.max
  exact Any.strings_Contains { Tryz.laysContains with } s sub m w hs hm
theorem split_calls {B : Nat} {w : World} (hT : OpW B w) (s sep : ByteArray) (hs : s.size < 4294967281) (h1 : 1 ≤ sep.size) :
    Calls Tryz.prog 54 #[.string s, .string sep] w fun e w' =>
      e = .returned (.slice (some ⟨w.heap.size, 0, none⟩) (Lib.countB s sep + 1) (Lib.countB s sep + 1)) ∧ w' = w.alloc (.cells ((Lib.splitB sep 0 (Lib.countB s sep) s).map Value.string).toArray 9) := by
  obtain ⟨m, hm⟩ := hT.max
  exact Any.strings_Split { Tryz.laysSplit with } Tryz.laysSplit.i9 s sep m w hs hm h1
theorem join_calls {w : World} (bk o c : Nat) (xs : List ByteArray) (sep : ByteArray) (hcells : ∀ (j : Nat) x, xs[j]? = some x → w.cell? ⟨bk, o + j, none⟩ = some (.string x))
    (hbk : bk < w.heap.size) (hN : xs.length ≤ 140737488355328) (hcap : xs.length ≤ c) (hlen : (Lib.join (xs.map (·.data.toList)) sep.data.toList).length ≤ 140737488355328) :
    Calls Tryz.prog 34 #[.slice (some ⟨bk, o, none⟩) xs.length c, .string sep] w fun e w' => e = .returned (.string ⟨(Lib.join (xs.map (·.data.toList)) sep.data.toList).toArray⟩) ∧ Below w.heap.size w w' :=
  Any.strings_Join Tryz.laysJoin extraJoin bk o c xs sep w hcells hbk hN hcap hlen
theorem indexByte_calls (w : World) (s : ByteArray) (c : Int) :
    Calls Tryz.prog 33 #[.string s, .int .u8 c] w fun e w' => e = .returned (.int .i64 (Lib.indexByte s.data.toList c.toNat.toUInt8)) ∧ w' = w :=
  Any.strings_IndexByte Tryz.laysIndexByte s c w

/-- A number's text. -/
def itoaB (n : Int) : ByteArray := ⟨(Lib.itoa n).toArray⟩
theorem grow_below {w w1 : World} (h : Below w.heap.size w w1) (os : Array Obj) : Below w.heap.size w (grow w1 os) :=
  ⟨h.os, h.tape, h.output, by have := h.size; simp [grow]; omega, fun g hg => by
    have h1 : g < w1.heap.size := Nat.lt_of_lt_of_le hg h.size
    simp only [grow]
    rw [Array.getElem?_append_left h1]
    exact h.block g hg⟩
theorem formatInt_calls {B : Nat} {w : World} (hT : OpW B w) (n : Int) (h0 : -9223372036854775808 ≤ n) (h1 : n ≤ 9223372036854775807) :
    Calls Tryz.prog 32 #[.int .i64 n, .int .i64 10] w fun e w' => e = .returned (.string (itoaB n)) ∧ Below w.heap.size w w' := by
  refine (Any.strconv_FormatInt_10 Tryz.laysFormatInt n h0 h1 w hT.pow).mono ?_
  rintro e w' ⟨rfl, k, os, rfl⟩
  exact ⟨rfl, grow_below (below_many (Below.refl _ _) k) os⟩
end Go.Proofs.YtchbkceconlbkaaGreatDoor
