/- Limits and the reference's, step by step; their sums of any lines (plain law and contracts of CapsPlay). -/
import Derived.Test.YtkdmedmlbglgmaaDoorCapsRefBad
import Derived.Test.YtkdmedmlbglgmaaDoorCapsBad
import Derived.Test.YtkdmedmlbglgmaaDoorCapsR
import Derived.Test.YtkdmedmlbglgmaaDoorPairLaw
import Derived.Test.YtkdmedmlbglgmaaDoorFlat
namespace Go.Proofs.YtkdmedmlbglgmaaDoor
open Go.Maps
open Go Go.RowKit
set_option linter.unusedSimpArgs false
set_option linter.unusedVariables false

theorem caps_refset {w : World} {g : Nat} {m : Lims} (h : Arr w g 47 (capsF m)) (s k v : Int) :
    Calls Tryd.prog 13 #[.pointer (some ⟨g, 0, none⟩), .int .i64 s, .int .i64 k, .int .i64 v] w fun e w' => e = .returned (.int .i64 (okN (limOK s k v))) ∧
      Arr w' g 47 (capsF (lset m s k v)) ∧ Keep (fun x => x = g) w w' := by
  cases hv : limOK s k v with
  | true => exact capsRefSet_ok h s k v hv
  | false =>
    have hl : lset m s k v = m := by unfold lset; rw [hv]; rfl
    rw [hl]
    refine (capsRefSet_bad s k v hv).mono ?_
    rintro e w' ⟨rfl, rfl⟩
    exact ⟨rfl, h, Keep.refl _ _⟩

def lcHave (zs : List Int) : Nat → Lims
  | 0 => []
  | k + 1 => lset (lcHave zs k) (zs.getD (k * 3) 0) (zs.getD (k * 3 + 1) 0) (zs.getD (k * 3 + 2) 0)
/-- What holds of all limits. -/
structure LimsOK (m : Lims) : Prop where
  keys : KeysL m
  nd : (m.map (·.1)).Nodup
  nz : ∀ x ∈ m, x.2 ≠ 0
theorem mdelL_mem {m : Lims} {k : Int × Int} {x : (Int × Int) × Int} (h : x ∈ mdel m k) : x ∈ m := by
  unfold mdel at h
  exact (List.mem_filter.1 h).1
theorem mdelL_length (m : Lims) (k : Int × Int) : (mdel m k).length ≤ m.length := by
  unfold mdel
  exact List.length_filter_le _ _
theorem LimsOK.next {m : Lims} (h : LimsOK m) (x1 x2 x3 : Int) : LimsOK (lset m x1 x2 x3) ∧ (lset m x1 x2 x3).length ≤ m.length + 1 := by
  unfold lset
  cases hv : limOK x1 x2 x3 with
  | false => rw [if_neg (by simp)]; exact ⟨h, by omega⟩
  | true =>
    rw [if_pos rfl]
    have h2 := of_decide_eq_true (show decide (1 ≤ x2 ∧ x2 ≤ mostOf x1 ∧ 0 ≤ x3 ∧ x3 ≤ 1000000000000000) = true from hv)
    have hk : KeysL (mput m (x1, x2) x3) := fun x hx => by
      rcases mem_mput hx with rfl | hx
      · exact ⟨h2.1, h2.2.1⟩
      · exact h.keys x hx
    have hnd := mnodup_mput h.nd (x1, x2) x3
    have hln := mput_length_le (m := m) (x1, x2) x3
    by_cases h0 : x3 = 0
    · rw [if_pos h0]
      refine ⟨⟨fun x hx => hk x (mdelL_mem hx), ?_, fun x hx => ?_⟩, Nat.le_trans (mdelL_length _ _) hln⟩
      · unfold mdel
        exact (List.filter_sublist.map _).nodup hnd
      · have hx2 := (List.mem_filter.1 hx).2
        rcases mem_mput (mdelL_mem hx) with rfl | hx
        · simp at hx2
        · exact h.nz x hx
    · rw [if_neg h0]
      refine ⟨⟨hk, hnd, fun x hx => ?_⟩, hln⟩
      rcases mem_mput hx with rfl | hx
      · exact h0
      · exact h.nz x hx
theorem lcHave_ok (zs : List Int) : ∀ k, LimsOK (lcHave zs k) ∧ (lcHave zs k).length ≤ k
  | 0 => ⟨⟨(fun x hx => by simp [lcHave] at hx), List.nodup_nil, (fun x hx => by simp [lcHave] at hx)⟩, Nat.le_refl _⟩
  | k + 1 => by
    obtain ⟨h1, h2⟩ := lcHave_ok zs k
    obtain ⟨h3, h4⟩ := h1.next (zs.getD (k * 3) 0) (zs.getD (k * 3 + 1) 0) (zs.getD (k * 3 + 2) 0)
    exact ⟨h3, Nat.le_trans h4 (by omega)⟩
theorem LimsOK.mem {m : Lims} (h : LimsOK m) (s k : Int) : (s, k) ∈ m.map (·.1) ↔ lim m s k ≠ 0 := by
  rw [mem_keys_iff]
  unfold lim
  cases hg : mget m (s, k) with
  | none => simp
  | some v => simpa using h.nz _ (mget_mem hg)
theorem LimsOK.key {m : Lims} (h : LimsOK m) {x : Int × Int} (hx : x ∈ m.map (·.1)) : 1 ≤ x.1 ∧ x.1 ≤ 3 ∧ 1 ≤ x.2 ∧ x.2 ≤ 32 := by
  obtain ⟨y, hy, rfl⟩ := List.mem_map.1 hx
  have h1 := h.keys y hy
  unfold mostOf at h1
  split at h1
  · omega
  · split at h1
    · omega
    · split at h1 <;> omega

/-- The lines that came in. -/
def rowsL (zs : List Int) (n : Nat) : List (G × Int) := (List.range n).map fun i => ((zs.getD (i * 4) 0, zs.getD (i * 4 + 1) 0, zs.getD (i * 4 + 2) 0), zs.getD (i * 4 + 3) 0)
theorem rowsL_len (zs : List Int) (n : Nat) : (rowsL zs n).length = n := by simp [rowsL]
theorem lines_of_rows {w : World} {a : Option Addr} {len cap : Nat} {zs : List Int} (h : IsRows 4 w a len cap zs) : LinesAt w (.slice a len cap) (rowsL zs len) := by
  have hl : (rowsL zs len).length = len := rowsL_len zs len
  by_cases h0 : len = 0
  · subst h0
    have hc : cap ≤ maxLen := by
      rcases h with ⟨_, _, h, _⟩ | ⟨_, _, _, h, _⟩
      · rw [h]; unfold maxLen; omega
      · exact h
    exact ⟨a, cap, by rw [hl], by rw [hl]; omega, hc, .inl rfl⟩
  · obtain ⟨b, off, rfl, hb, h1, h2, h3, hc, _⟩ := h.open (by decide) (by omega)
    refine ⟨_, cap, by rw [hl], by rw [hl]; exact h2, h3, .inr ⟨b, off, rfl, hb, fun i x hx => ?_⟩⟩
    have hi : i < len := by have := (List.getElem?_eq_some_iff.1 hx).1; omega
    obtain rfl : x = ((zs.getD (i * 4) 0, zs.getD (i * 4 + 1) 0, zs.getD (i * 4 + 2) 0), zs.getD (i * 4 + 3) 0) := by
      have : (rowsL zs len)[i]? = some ((zs.getD (i * 4) 0, zs.getD (i * 4 + 1) 0, zs.getD (i * 4 + 2) 0), zs.getD (i * 4 + 3) 0) := by
        unfold rowsL
        rw [List.getElem?_map, List.getElem?_range hi]
        rfl
      rw [this] at hx
      exact (Option.some.inj hx).symm
    refine ⟨hc (i * 4) (by omega), ?_, ?_, ?_⟩
    · have := hc (i * 4 + 1) (by omega); rwa [← Nat.add_assoc] at this
    · have := hc (i * 4 + 2) (by omega); rwa [← Nat.add_assoc] at this
    · have := hc (i * 4 + 3) (by omega); rwa [← Nat.add_assoc] at this
theorem first_bad : ∀ (L : List (G × Int)), (∀ x ∈ L, fitsL x = true) ∨ ∃ (n : Nat) (y : G × Int), L[n]? = some y ∧ fitsL y = false ∧ ∀ (j : Nat) (x : G × Int), j < n → L[j]? = some x → fitsL x = true
  | [] => .inl (fun x hx => by cases hx)
  | y :: L => by
    cases hy : fitsL y with
    | false => exact .inr ⟨0, y, rfl, hy, fun j x hj => absurd hj (by omega)⟩
    | true =>
      rcases first_bad L with h | ⟨n, z, h1, h2, h3⟩
      · refine .inl fun x hx => ?_
        rcases List.mem_cons.1 hx with rfl | hx
        · exact hy
        · exact h x hx
      · refine .inr ⟨n + 1, z, by simpa using h1, h2, fun j x hj hx => ?_⟩
        cases j with
        | zero => simp at hx; rw [← hx]; exact hy
        | succ j => exact h3 j x (by omega) (by simpa using hx)
/-- Both sums, and how their errors compare. -/
theorem sum_both {B : Nat} {p : Nat → Addr} {w : World} (hE : Errs (List.range 21) B p w) {b : Nat} {r : Option Nat} {m : Lims} (hC : CapsR w b r m) {v : Value} {L : List (G × Int)} (hL : LinesAt w v L) :
    ∃ (sv c : Int) (bb : Bool) (q : Int), (Calls Tryd.prog 10 #[.pointer (some ⟨b, 0, none⟩), v] w fun e w' => ∃ E, e = .returned (.tuple #[.int .i64 sv, E]) ∧ Below w.heap.size w w' ∧
        ∀ w2, Below w'.heap.size w' w2 → Calls Tryd.prog 18 #[E, faultV c bb q] w2 fun e w3 => e = .returned (.bool true) ∧ Below w2.heap.size w2 w3) ∧
      (∀ w2 g u, Arr w2 g 47 (capsF m) → LinesAt w2 u L → Calls Tryd.prog 15 #[.pointer (some ⟨g, 0, none⟩), u] w2 fun e w' => e = .returned (.tuple #[.int .i64 sv, faultV c bb q]) ∧ Below w2.heap.size w2 w') := by
  rcases first_bad L with hf | ⟨n, y, h1, h2, h3⟩
  · have hS := sum_calls hE (by decide) hC.at hL hf
    have hRf : ∀ w2 g u, Arr w2 g 47 (capsF m) → LinesAt w2 u L → _ := fun w2 g u ha hl => capsRefSum_ok ha hl hf
    unfold capR at hS
    cases hc : capSum m L with
    | some n =>
      rw [hc] at hS hRf
      refine ⟨n, 0, false, 0, hS.mono ?_, fun w2 g u ha hl => (hRf w2 g u ha hl).mono fun e w' h => h⟩
      rintro e w' ⟨rfl, hb⟩
      refine ⟨.nilIface, rfl, hb, fun w2 hb2 => (same_nil 0 false 0 w2).mono ?_⟩
      rintro e w3 ⟨rfl, hb3⟩
      exact ⟨by simp [sameF], hb3⟩
    | none =>
      rw [hc] at hS hRf
      refine ⟨0, 104, false, 0, hS.mono ?_, fun w2 g u ha hl => (hRf w2 g u ha hl).mono fun e w' h => h⟩
      rintro e w' ⟨rfl, hb⟩
      have hE' := hE.below (hb.mono hE.size)
      refine ⟨ev p 3, rfl, hb, fun w2 hb2 => (same_ev (hE'.below (hb2.mono hE'.size)) (k := 3) (by decide) 104 false 0).mono ?_⟩
      rintro e w3 ⟨rfl, hb3⟩
      exact ⟨by simp [sameF], hb3⟩
  · have hS := sum_bad hE (by decide) (.pointer (some ⟨b, 0, none⟩)) hL h1 h2 h3
    refine ⟨0, 103, true, n, hS.mono ?_, fun w2 g u _ hl => capsRefSum_bad (.pointer (some ⟨g, 0, none⟩)) hl h1 h2 h3⟩
    rintro e w' ⟨hb, nb, rfl, hat⟩
    have hE' := hE.below (hb.mono hE.size)
    refine ⟨atV nb, rfl, hb, fun w2 hb2 => (same_at (hE'.below (hb2.mono hE'.size)) (k := 2) (by decide) (hat.below hb2) 103 true n).mono ?_⟩
    rintro e w3 ⟨rfl, hb3⟩
    exact ⟨by simp [sameF], hb3⟩
/-- Element k of the row of cells, as a round reads it. -/
structure DRL (w : World) (b o : Nat) (x1 x2 x3 : Int) : Prop where
  c0 : w.cell? ⟨b, o, none⟩ = some (.int .i64 x1)
  c1 : w.cell? ⟨b, o + 1, none⟩ = some (.int .i64 x2)
  c2 : w.cell? ⟨b, o + 2, none⟩ = some (.int .i64 x3)
theorem DRL.keep {S : Nat → Prop} {w w' : World} {b o : Nat} {x1 x2 x3 : Int} (h : DRL w b o x1 x2 x3) (k : Keep S w w') (hs : ¬ S b) : DRL w' b o x1 x2 x3 := by
  have hlt : b < w.heap.size := World.block_lt_of_cell? w ⟨b, o, none⟩ h.c0
  exact ⟨(k.cell (x := ⟨b, o, none⟩) hlt hs).trans h.c0, (k.cell (x := ⟨b, o + 1, none⟩) hlt hs).trans h.c1, (k.cell (x := ⟨b, o + 2, none⟩) hlt hs).trans h.c2⟩
theorem DRL.below {w w' : World} {b o : Nat} {x1 x2 x3 : Int} (h : DRL w b o x1 x2 x3) (k : Below w.heap.size w w') : DRL w' b o x1 x2 x3 := h.keep (S := fun _ => False) (Keep.of_below k) (fun h => h)
end Go.Proofs.YtkdmedmlbglgmaaDoor
