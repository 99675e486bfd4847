/- cmp.Compare and cmp.Or at numbers; pairs in order; a row of pairs as a sort leaves it. -/
import Derived.Test.YtkdmedmlbglgmaaDoorProg
import Derived.Test.YtkdmedmlbglgmaaDoorIter
import Derived.Shelf.SlSortCmp.WholeK
namespace Go.Proofs.YtkdmedmlbglgmaaDoor
open Go.Maps Go.Shelf Go.RowKit Go.Lib Go.Sort
open Go Go.RowKit
set_option linter.unusedSimpArgs false
set_option linter.unusedVariables false

def encP (x : Int × Int) : List Value := [.int .i64 x.1, .int .i64 x.2]
def cmpNum (x y : Int) : Int := if x < y then -1 else if y < x then 1 else 0
def cfP (x y : Int × Int) : Int := if cmpNum x.1 y.1 ≠ 0 then cmpNum x.1 y.1 else cmpNum x.2 y.2
theorem nanP_calls (x : Int) (w : World) : Calls Tryd.prog 74 #[.int .i64 x] w fun e w' => e = .returned (.bool false) ∧ w = w' := by
  go_enter Tryd.func74, Tryd.ntmps74
  go_wp2
  go_ret
  exact ⟨by simp, rfl⟩
theorem cmpP_calls (x y : Int) (w : World) : Calls Tryd.prog 43 #[.int .i64 x, .int .i64 y] w fun e w' => e = .returned (.int .i64 (cmpNum x y)) ∧ w = w' := by
  unfold cmpNum
  by_cases h1 : x < y
  · rw [if_pos h1]
    go_enter Tryd.func43, Tryd.ntmps43
    go_wp2_with (go_at_call 74; refine (nanP_calls _ _).mono ?_; rintro e w1 ⟨rfl, rfl⟩)
    go_ret
    exact ⟨rfl, rfl⟩
  · by_cases h2 : y < x
    · rw [if_neg h1, if_pos h2]
      go_enter Tryd.func43, Tryd.ntmps43
      go_wp2_with (go_at_call 74; refine (nanP_calls _ _).mono ?_; rintro e w1 ⟨rfl, rfl⟩)
      go_ret
      exact ⟨rfl, rfl⟩
    · rw [if_neg h1, if_neg h2]
      have h1' : y ≤ x := by omega
      have h2' : x ≤ y := by omega
      go_enter Tryd.func43, Tryd.ntmps43
      go_wp2_with (go_at_call 74; refine (nanP_calls _ _).mono ?_; rintro e w1 ⟨rfl, rfl⟩)
      go_ret
      exact ⟨rfl, rfl⟩
theorem orP_calls {w : World} {g : Nat} {x y : Int} (c0 : w.cell? ⟨g, 0, none⟩ = some (.int .i64 x)) (c1 : w.cell? ⟨g, 1, none⟩ = some (.int .i64 y)) : Calls Tryd.prog 42 #[.slice (some ⟨g, 0, none⟩) 2 2] w fun e w' => e = .returned (.int .i64 (if x ≠ 0 then x else y)) ∧ w = w' := by
  by_cases hx : x = 0
  · rw [if_neg (by simpa using hx)]
    by_cases hy : y = 0
    · rw [hx] at c0
      rw [hy] at c1 ⊢
      clear hx hy
      go_enter Tryd.func42, Tryd.ntmps42
      go_wp2_with fail
      go_loop [8] (fun i => i = .int .i64 0 ∨ i = .int .i64 1 ∨ i = .int .i64 2) (fun i => 2 - (intOf i).toNat)
      case atStart => exact .inl rfl
      case round =>
        rcases hrel with rfl | rfl | rfl
        · go_wp2_with fail
          go_round
          case rel => exact .inr (.inl (by go_num))
          case measure => simp [intOf]
        · go_wp2_with fail
          go_round
          case rel => exact .inr (.inr (by go_num))
          case measure => simp [intOf]
        · go_wp2_with fail
          go_ret
          exact ⟨rfl, rfl⟩
    · rw [hx] at c0
      clear hx
      have hy' : (y != 0) = true := by simpa using hy
      go_enter Tryd.func42, Tryd.ntmps42
      go_wp2_with fail
      go_loop [8] (fun i => i = .int .i64 0 ∨ i = .int .i64 1) (fun i => 2 - (intOf i).toNat)
      case atStart => exact .inl rfl
      case round =>
        rcases hrel with rfl | rfl
        · go_wp2_with fail
          go_round
          case rel => exact .inr (by go_num)
          case measure => simp [intOf]
        · go_wp2_with fail
          go_ret
          exact ⟨rfl, rfl⟩
  · rw [if_pos hx]
    have hx' : (x != 0) = true := by simpa using hx
    go_enter Tryd.func42, Tryd.ntmps42
    go_wp2_with fail
    go_loop [8] (fun i => i = .int .i64 0) (fun i => 2 - (intOf i).toNat)
    case atStart => rfl
    case round =>
      obtain rfl := hrel
      go_wp2_with fail
      go_ret
      exact ⟨rfl, rfl⟩
set_option maxRecDepth 100000 in
theorem bitsLenP (w : World) : Calls Tryd.prog 92 #[.int .u64 0] w fun e w' => (∃ k : Int, e = .returned (.int .i64 k)) ∧ w = w' := by
  go_enter Tryd.func92, Tryd.ntmps92
  go_wp2
  go_ret
  exact ⟨⟨_, rfl⟩, rfl⟩
theorem cellP_top (w : World) (cs : Array Value) (E : TypeId) (j : Nat) (u : Value) (h : cs[j]? = some u) : (w.alloc (.cells cs E)).cell? ⟨w.heap.size, j, none⟩ = some u := by
  simp only [World.cell?, World.alloc, Array.getElem?_push, if_true]
  simpa using h
theorem ltP (x y : Int × Int) : ltOf cfP x y = decide (x.1 < y.1 ∨ x.1 = y.1 ∧ x.2 < y.2) := by
  unfold ltOf cfP cmpNum
  by_cases h1 : x.1 < y.1
  · simp [h1]
  · by_cases h2 : y.1 < x.1
    · have h3 : ¬ x.1 = y.1 := by omega
      simp [h1, h2, h3]
    · have h3 : x.1 = y.1 := by omega
      by_cases h4 : x.2 < y.2
      · simp [h3, h4]
      · by_cases h5 : y.2 < x.2 <;> simp [h3, h4, h5]
theorem swoP : SWO (ltOf cfP) where
  irrefl x := by rw [ltP]; simp
  trans x y z h1 h2 := by rw [ltP] at *; simp at *; omega
  ntrans x y z h1 h2 := by rw [ltP] at *; simp at *; omega
/-- The order of pairs. -/
def leP (x y : Int × Int) : Bool := decide (x.1 < y.1 ∨ x.1 = y.1 ∧ x.2 ≤ y.2)
def sortP (L : List (Int × Int)) : List (Int × Int) := L.mergeSort leP
theorem sortP_length (L : List (Int × Int)) : (sortP L).length = L.length := by simp [sortP, List.length_mergeSort]
theorem leP_trans (a b c : Int × Int) (h1 : leP a b = true) (h2 : leP b c = true) : leP a c = true := by
  simp only [leP, decide_eq_true_eq] at *
  omega
theorem leP_total (a b : Int × Int) : (leP a b || leP b a) = true := by
  simp only [leP, Bool.or_eq_true, decide_eq_true_eq]
  omega
theorem leP_anti {a b : Int × Int} (h1 : leP a b = true) (h2 : leP b a = true) : a = b := by
  simp only [leP, decide_eq_true_eq] at *
  exact Prod.ext (by omega) (by omega)
theorem sortP_pairwise (L : List (Int × Int)) : (sortP L).Pairwise (fun a b => leP a b = true) := List.pairwise_mergeSort leP_trans leP_total L
theorem sortP_is (L : List (Int × Int)) : (sortP L).Perm L := List.mergeSort_perm L leP
theorem sortP_unique {L M : List (Int × Int)} (hM : M.Pairwise (fun a b => leP a b = true)) (hp : M.Perm L) : M = sortP L :=
  List.Perm.eq_of_pairwise (fun _ _ _ _ h1 h2 => leP_anti h1 h2) hM (sortP_pairwise L) (hp.trans (sortP_is L).symm)
theorem sortP_perm {L M : List (Int × Int)} (h : L.Perm M) : sortP L = sortP M := sortP_unique (sortP_pairwise L) ((sortP_is L).trans h)
theorem sortP_of {d : Array (Int × Int)} {L : List (Int × Int)} (hS : SortedIn (ltOf cfP) 0 L.toArray.size d) (hs : d.size = L.toArray.size) (hp : d.toList.Perm L.toArray.toList) : d.toList = sortP L := by
  refine sortP_unique ?_ (by simpa using hp)
  rw [List.pairwise_iff_getElem]
  intro i j hi hj hij
  have h := hS i j (Nat.zero_le _) hij (by rw [← hs]; simpa using hj)
  have ei : d[i]! = d.toList[i] := by rw [getElem!_pos d i (by simpa using hi)]; simp
  have ej : d[j]! = d.toList[j] := by rw [getElem!_pos d j (by simpa using hj)]; simp
  rw [ltP, ei, ej] at h
  simp only [decide_eq_false_iff_not] at h
  simp only [leP, decide_eq_true_eq]
  omega
theorem pCells_at : ∀ (L : List (Int × Int)) (i : Nat) (x : Int × Int), L[i]? = some x → (pCells L)[i * 2]? = some (.int .i64 x.1) ∧ (pCells L)[i * 2 + 1]? = some (.int .i64 x.2)
  | [], i, x, h => by simp at h
  | y :: L, 0, x, h => by
    simp only [List.getElem?_cons_zero, Option.some.injEq] at h
    subst h
    simp [pCells]
  | y :: L, i + 1, x, h => by
    simp only [List.getElem?_cons_succ] at h
    have ih := pCells_at L i x h
    simp only [pCells]
    refine ⟨?_, ?_⟩
    · rw [show (i + 1) * 2 = i * 2 + 1 + 1 by omega]; simpa using ih.1
    · rw [show (i + 1) * 2 + 1 = (i * 2 + 1) + 1 + 1 by omega]; simpa using ih.2
theorem flatP_at (d : Array (Int × Int)) (i c : Nat) (hi : i < d.size) (hc : c < 2) : (flatK encP 2 d)[i * 2 + c]! = (encP d[i]!)[c]! := by
  rw [get_flatK encP 2 d (i * 2 + c) (by omega), show (i * 2 + c) / 2 = i by omega, show (i * 2 + c) % 2 = c by omega]
theorem holdsP_of_own {w : World} {base g cap : Nat} {E : TypeId} {L : List (Int × Int)} (hO : w.ownsRow base E 2 (.slice (some ⟨g, 0, none⟩) L.length cap) L.length (pCells L)) : HoldsK encP 2 w g 0 L.toArray := by
  intro j hj
  rw [size_flatK] at hj
  simp only [List.size_toArray] at hj
  rw [Nat.zero_add]
  refine ⟨?_, World.ownsRow.frozenAt hO j⟩
  rw [World.ownsRow.cellAt hO j hj]
  obtain ⟨x, hx⟩ : ∃ x, L[j / 2]? = some x := ⟨_, List.getElem?_eq_getElem (by omega)⟩
  obtain ⟨e0, e1⟩ := pCells_at L (j / 2) x hx
  have hd : L.toArray[j / 2]! = x := by simp [hx]
  rw [get_flatK encP 2 L.toArray j (by simpa using hj), hd]
  have : j % 2 = 0 ∨ j % 2 = 1 := by omega
  rcases this with h | h
  · rw [show j = j / 2 * 2 by omega, show (j / 2 * 2) % 2 = 0 by omega, e0]; rfl
  · rw [show j = j / 2 * 2 + 1 by omega, show (j / 2 * 2 + 1) % 2 = 1 by omega, e1]; rfl
theorem keepP_sort (w : World) (g n : Nat) (d : Array (Int × Int)) (os : Array Obj) (hg : g < w.heap.size) : Keep (fun x => x = g) w (sortWorldK encP 2 w g 0 n d os) := by
  refine ⟨rfl, rfl, rfl, size_sortWorldK_c encP 2 w g 0 n d os, fun k hk hn => ?_⟩
  unfold sortWorldK putRowK putRow
  simp only [grow, mapBlock, ahead]
  rw [Array.getElem?_append_left (by simpa using hk), Array.getElem?_modify, if_neg (fun e => hn e.symm)]
  rfl
/-- A new slice of pairs that can be read. -/
def RdP (base : Nat) (w : World) (v : Value) (L : List (Int × Int)) : Prop :=
  ∃ ad cap, v = .slice ad L.length cap ∧ L.length ≤ cap ∧ cap ≤ maxLen ∧ (L = [] ∨ ∃ g, ad = some ⟨g, 0, none⟩ ∧ base ≤ g ∧ g < w.heap.size ∧
    ∀ i x, L[i]? = some x → w.cell? ⟨g, i * 2, none⟩ = some (.int .i64 x.1) ∧ w.cell? ⟨g, i * 2 + 1, none⟩ = some (.int .i64 x.2))
end Go.Proofs.YtkdmedmlbglgmaaDoor
