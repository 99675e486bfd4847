/- A root as bytes, and what bytes are a root: plain lists, no program in sight. -/
import Derived.Test.YtehacchacgfjlaaDoorLib
namespace Go.Proofs.YtehacchacgfjlaaDoor
open Go Go.RowKit
set_option linter.unusedSimpArgs false
set_option linter.unusedVariables false

/-- Byte k of a number, the lowest first. -/
def byteAt (e : Int) (k : Nat) : Int := e / 256 ^ k % 256
def rbAt (e : Int) (l : List Int) (i : Nat) : Int :=
  if i < 6 then byteAt e i
  else if i = 6 then (l.length : Int)
  else if i < 7 + 2 * l.length then byteAt (l.getD ((i - 7) / 2) 0) ((i - 7) % 2)
  else if 122 ≤ i then byteAt e (i - 122) else 0
/-- A root as a sector. -/
def rootL (e : Int) (l : List Int) : List Int := (List.range 128).map (rbAt e l)
theorem rootL_length (e : Int) (l : List Int) : (rootL e l).length = 128 := by simp [rootL]
theorem rootL_get (e : Int) (l : List Int) (i : Nat) (h : i < 128) : (rootL e l).getD i 0 = rbAt e l i := by
  simp [rootL, List.getD, h]
def epOk (e : Int) : Prop := 1 ≤ e ∧ e ≤ 1099511627776
def numsOk (l : List Int) : Prop := ∀ n ∈ l, 0 ≤ n ∧ n ≤ 8192
/-- What may be a root. -/
def rootOk (e : Int) (l : List Int) : Prop := epOk e ∧ numsOk l ∧ l.length ≤ 40
instance (e : Int) (l : List Int) : Decidable (rootOk e l) := by unfold rootOk epOk numsOk; infer_instance
/-- The epoch that the first six bytes say. -/
def num6 (bs : List Int) : Int := bs.getD 0 0 + bs.getD 1 0 * 256 + bs.getD 2 0 * 65536 + bs.getD 3 0 * 16777216 + bs.getD 4 0 * 4294967296 + bs.getD 5 0 * 1099511627776
/-- The numbers that the bytes say. -/
def listOf (bs : List Int) : List Int := (List.range (bs.getD 6 0).toNat).map fun i => bs.getD (7 + 2 * i) 0 + bs.getD (8 + 2 * i) 0 * 256
/-- The root that bytes are. -/
def readL (bs : List Int) : Option (Int × List Int) :=
  if bs.length = 128 ∧ bs.getD 6 0 ≤ 40 ∧ rootOk (num6 bs) (listOf bs) ∧ rootL (num6 bs) (listOf bs) = bs then some (num6 bs, listOf bs) else none
def isBytes (bs : List Int) : Prop := ∀ x ∈ bs, 0 ≤ x ∧ x ≤ 255
theorem byteAt_range (e : Int) (k : Nat) : 0 ≤ byteAt e k ∧ byteAt e k ≤ 255 := by
  unfold byteAt
  have h1 := Int.emod_nonneg (e / 256 ^ k) (show (256 : Int) ≠ 0 by decide)
  have h2 := Int.emod_lt_of_pos (e / 256 ^ k) (show (0 : Int) < 256 by decide)
  omega
theorem rbAt_range (e : Int) (l : List Int) (hl : l.length ≤ 255) (i : Nat) : 0 ≤ rbAt e l i ∧ rbAt e l i ≤ 255 := by
  unfold rbAt
  split
  · exact byteAt_range ..
  · split
    · omega
    · split
      · exact byteAt_range ..
      · split
        · exact byteAt_range ..
        · omega
theorem rootL_bytes (e : Int) (l : List Int) (hl : l.length ≤ 255) : isBytes (rootL e l) := fun x hx => by
  obtain ⟨i, _, rfl⟩ := List.mem_map.1 hx
  exact rbAt_range e l hl i
/-- Six bytes say the number. -/
theorem six_bytes (e : Int) (h0 : 0 ≤ e) (h1 : e ≤ 1099511627776) : byteAt e 0 + byteAt e 1 * 256 + byteAt e 2 * 65536 + byteAt e 3 * 16777216 + byteAt e 4 * 4294967296 + byteAt e 5 * 1099511627776 = e := by
  unfold byteAt
  rw [show (256 : Int) ^ 0 = 1 by decide, show (256 : Int) ^ 1 = 256 by decide, show (256 : Int) ^ 2 = 65536 by decide, show (256 : Int) ^ 3 = 16777216 by decide, show (256 : Int) ^ 4 = 4294967296 by decide, show (256 : Int) ^ 5 = 1099511627776 by decide]
  omega
theorem num6_rootL (e : Int) (l : List Int) (h0 : 0 ≤ e) (h1 : e ≤ 1099511627776) : num6 (rootL e l) = e := by
  unfold num6
  rw [rootL_get _ _ _ (by decide), rootL_get _ _ _ (by decide), rootL_get _ _ _ (by decide), rootL_get _ _ _ (by decide), rootL_get _ _ _ (by decide), rootL_get _ _ _ (by decide)]
  exact six_bytes e h0 h1
theorem two_bytes (n : Int) (h0 : 0 ≤ n) (h1 : n ≤ 8192) : byteAt n 0 + byteAt n 1 * 256 = n := by
  unfold byteAt
  simp only [Int.pow_zero, Int.pow_one]
  omega
theorem listOf_rootL (e : Int) (l : List Int) (hn : numsOk l) (hl : l.length ≤ 40) : listOf (rootL e l) = l := by
  unfold listOf
  have h6 : (rootL e l).getD 6 0 = (l.length : Int) := by rw [rootL_get _ _ _ (by decide)]; rfl
  rw [h6, Int.toNat_natCast]
  refine List.ext_getElem (by simp) fun i h1 h2 => ?_
  rw [List.getElem_map, List.getElem_range, rootL_get _ _ _ (by omega), rootL_get _ _ _ (by omega)]
  have e1 : rbAt e l (7 + 2 * i) = byteAt l[i] 0 := by
    unfold rbAt
    rw [if_neg (by omega), if_neg (by omega), if_pos (by omega), show (7 + 2 * i - 7) / 2 = i by omega, show (7 + 2 * i - 7) % 2 = 0 by omega]
    simp [List.getD, h2]
  have e2 : rbAt e l (8 + 2 * i) = byteAt l[i] 1 := by
    unfold rbAt
    rw [if_neg (by omega), if_neg (by omega), if_pos (by omega), show (8 + 2 * i - 7) / 2 = i by omega, show (8 + 2 * i - 7) % 2 = 1 by omega]
    simp [List.getD, h2]
  rw [e1, e2]
  have := hn l[i] (List.getElem_mem h2)
  exact two_bytes _ this.1 this.2
theorem readL_rootL (e : Int) (l : List Int) (h : rootOk e l) : readL (rootL e l) = some (e, l) := by
  obtain ⟨⟨h1, h2⟩, h3, h4⟩ := h
  have e1 := num6_rootL e l (by omega) h2
  have e2 := listOf_rootL e l h3 h4
  unfold readL
  rw [e1, e2, if_pos]
  refine ⟨rootL_length e l, ?_, ⟨⟨h1, h2⟩, h3, h4⟩, rfl⟩
  rw [rootL_get _ _ _ (by decide)]
  show (l.length : Int) ≤ 40
  omega
theorem readL_some {bs : List Int} {e : Int} {l : List Int} (h : readL bs = some (e, l)) : rootOk e l ∧ bs = rootL e l := by
  unfold readL at h
  split at h
  · rename_i hc
    simp only [Option.some.injEq, Prod.mk.injEq] at h
    obtain ⟨rfl, rfl⟩ := h
    exact ⟨hc.2.2.1, hc.2.2.2.symm⟩
  · cases h
theorem readL_length {bs : List Int} (h : bs.length ≠ 128) : readL bs = none := by
  unfold readL
  rw [if_neg (fun hc => h hc.1)]
theorem readL_zero : readL (List.replicate 128 0) = none := by
  cases h : readL (List.replicate 128 0) with
  | none => rfl
  | some r =>
    obtain ⟨⟨⟨h1, _⟩, _⟩, h2⟩ := readL_some (e := r.1) (l := r.2) h
    have := congrArg num6 h2
    rw [num6_rootL _ _ (by omega) (by have := (readL_some (e := r.1) (l := r.2) h).1.1.2; exact this)] at this
    have h0 : num6 (List.replicate 128 0) = 0 := by decide
    omega
end Go.Proofs.YtehacchacgfjlaaDoor
