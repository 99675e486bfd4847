/- A table and the reference's losses, step by step (plain law of StressPlays; contracts at whatever input). -/
import Derived.Test.YtehacchacgfjlaaDoorLossRef2
import Derived.Test.YtehacchacgfjlaaDoorPairLaw
import Derived.Test.YtehacchacgfjlaaDoorSortS
import Derived.Test.YtehacchacgfjlaaDoorPlayKit
import Derived.Test.YtehacchacgfjlaaDoorFlat
namespace Go.Proofs.YtehacchacgfjlaaDoor
open Go.Maps
open Go Go.RowKit
set_option linter.unusedSimpArgs false
set_option linter.unusedVariables false

theorem tabSet_bad {ks : List Nat} {B : Nat} {p : Nat → Addr} {w : World} (hE : Errs ks B p w) (hk : 2 ∈ ks) (ptr : Value) (s k v : Int) (h : cellOK s k v = false) :
    Calls Tryd.prog 52 #[ptr, .agg #[.int .i64 s, .int .i64 k], .int .i64 v] w fun e w' => e = .returned (ev p 2) ∧ Below w.heap.size w w' := by
  have h2 : w.cell? ⟨0, 0, none⟩ = some (ev p 2) := hE.cell 2 hk
  have hlt : 0 < w.heap.size := Nat.lt_of_lt_of_le (hE.lt 2 hk).1 hE.size
  simp only [cellOK, decide_eq_false_iff_not] at h
  unfold ev errV at h2 ⊢
  clear hE
  cases hs : isScene s with
  | false =>
    clear h
    go_enter Tryd.func52, Tryd.ntmps52
    go_wp2_with (go_at_call 93; refine (scene_calls _ _).mono ?_; rintro e w1 ⟨rfl, rfl⟩; rw [hs])
    go_ret
    exact ⟨rfl, by (repeat (first | exact Below.refl _ _ | assumption | refine Below.drew ?_ | refine below_many ?_ _ | refine Below.alloc ?_ (by first | (simp; done) | (simp; omega) | omega) _ | refine Below.setCell ?_ (by first | (simp; done) | (simp; omega) | omega) _))⟩
  | true =>
    simp only [isScene, decide_eq_true_eq] at hs
    by_cases c1 : k < 1
    · have d1 : decide (k < 1) = true := decide_eq_true c1
      have hs' : isScene s = true := decide_eq_true hs
      clear h c1 hs
      go_enter Tryd.func52, Tryd.ntmps52
      go_wp2_with (go_at_call 93; refine (scene_calls _ _).mono ?_; rintro e w1 ⟨rfl, rfl⟩; rw [hs'])
      go_ret
      exact ⟨rfl, by (repeat (first | exact Below.refl _ _ | assumption | refine Below.drew ?_ | refine below_many ?_ _ | refine Below.alloc ?_ (by first | (simp; done) | (simp; omega) | omega) _ | refine Below.setCell ?_ (by first | (simp; done) | (simp; omega) | omega) _))⟩
    · by_cases c2 : 32 < k
      · have d1 : decide (k < 1) = false := decide_eq_false c1
        have d2 : decide (32 < k) = true := decide_eq_true c2
        have hs' : isScene s = true := decide_eq_true hs
        clear h c1 c2 hs
        go_enter Tryd.func52, Tryd.ntmps52
        go_wp2_with (go_at_call 93; refine (scene_calls _ _).mono ?_; rintro e w1 ⟨rfl, rfl⟩; rw [hs'])
        go_ret
        exact ⟨rfl, by (repeat (first | exact Below.refl _ _ | assumption | refine Below.drew ?_ | refine below_many ?_ _ | refine Below.alloc ?_ (by first | (simp; done) | (simp; omega) | omega) _ | refine Below.setCell ?_ (by first | (simp; done) | (simp; omega) | omega) _))⟩
      · have hv : isAmt v = false := decide_eq_false (by omega)
        have d1 : decide (k < 1) = false := decide_eq_false c1
        have d2 : decide (32 < k) = false := decide_eq_false c2
        have hs' : isScene s = true := decide_eq_true hs
        clear h c1 c2 hs
        go_enter Tryd.func52, Tryd.ntmps52
        go_wp2_with (first
          | (go_at_call 93; refine (scene_calls _ _).mono ?_; rintro e w1 ⟨rfl, rfl⟩; rw [hs'])
          | (go_at_call 94; refine (amount_calls _ _).mono ?_; rintro e w1 ⟨rfl, rfl⟩; rw [hv]))
        go_ret
        exact ⟨rfl, by (repeat (first | exact Below.refl _ _ | assumption | refine Below.drew ?_ | refine below_many ?_ _ | refine Below.alloc ?_ (by first | (simp; done) | (simp; omega) | omega) _ | refine Below.setCell ?_ (by first | (simp; done) | (simp; omega) | omega) _))⟩

/-- A table at block b: its map's block is r. -/
structure TabR (w : World) (b : Nat) (r : Option Nat) (m : LossM) : Prop where
  cmap : w.cell? ⟨b, 0, none⟩ = some (.map r)
  map : CellMap w r m
  free : w.frozen? ⟨b, 0, none⟩ = false
  bd : ∀ x ∈ m, 0 ≤ x.2 ∧ x.2 ≤ 1000000000000000
theorem TabR.lt {w : World} {b : Nat} {r : Option Nat} {m : LossM} (h : TabR w b r m) : b < w.heap.size := World.block_lt_of_cell? w ⟨b, 0, none⟩ h.cmap
theorem TabR.keep {S : Nat → Prop} {w w' : World} {b : Nat} {r : Option Nat} {m : LossM} (h : TabR w b r m) (k : Keep S w w') (hb : ¬ S b) (hr : ∀ x, r = some x → ¬ S x) : TabR w' b r m :=
  ⟨(k.cell (x := ⟨b, 0, none⟩) h.lt hb).trans h.cmap, h.map.keep k hr, (k.frozen (x := ⟨b, 0, none⟩) h.lt hb).trans h.free, h.bd⟩
theorem TabR.below {w w' : World} {b : Nat} {r : Option Nat} {m : LossM} (h : TabR w b r m) (k : Below w.heap.size w w') : TabR w' b r m :=
  h.keep (S := fun _ => False) (Keep.of_below k) (fun h => h) (fun _ _ h => h)
/-- What is there behind a loss that is set. -/
def lpNext (m : LossM) (x1 x2 x3 : Int) : LossM := if cellOK x1 x2 x3 then mset m (x1, x2) x3 else m
theorem mset_mem {m : LossM} {k : Int × Int} {v : Int} {x : (Int × Int) × Int} (h : x ∈ mset m k v) : x ∈ mput m k v := by
  unfold mset at h
  split at h
  · exact mdel_mem h
  · exact h
theorem tabR_set {B : Nat} {p : Nat → Addr} {w : World} (hE : Errs (List.range 21) B p w) {b : Nat} {r : Option Nat} {m : LossM} (h : TabR w b r m) (s k v : Int) :
    Calls Tryd.prog 52 #[.pointer (some ⟨b, 0, none⟩), .agg #[.int .i64 s, .int .i64 k], .int .i64 v] w fun e w' => e = .returned (okV p (cellOK s k v)) ∧
      ∃ r', TabR w' b r' (lpNext m s k v) ∧ (r' = r ∨ ∃ nb, r' = some nb ∧ w.heap.size ≤ nb) ∧ Keep (fun x => x = b ∨ r = some x) w w' := by
  unfold lpNext
  cases hv : cellOK s k v with
  | true =>
    refine (tabSet_ok h.cmap h.free h.map s k v hv).mono ?_
    rintro e w' ⟨rfl, r', hm', hf⟩
    refine ⟨rfl, r', ⟨hf.cell, hm', (hf.froz 0).trans h.free, fun x hx => ?_⟩, hf.now, hf.keep⟩
    rcases mem_mput (mset_mem hx) with rfl | hx
    · simp only [cellOK, decide_eq_true_eq] at hv
      simp only; omega
    · exact h.bd x hx
  | false =>
    refine (tabSet_bad hE (by decide) _ s k v hv).mono ?_
    rintro e w' ⟨rfl, hb⟩
    exact ⟨rfl, r, h.below hb, .inl rfl, Keep.of_below hb⟩
theorem loss_set {w : World} {g : Nat} {m : LossM} (h : Arr w g 561 (lossF m)) (s k v : Int) :
    Calls Tryd.prog 53 #[.pointer (some ⟨g, 0, none⟩), .int .i64 s, .int .i64 k, .int .i64 v] w fun e w' => e = .returned (.int .i64 (okN (cellOK s k v))) ∧
      Arr w' g 561 (lossF (lpNext m s k v)) ∧ Keep (fun x => x = g) w w' := by
  unfold lpNext
  cases hv : cellOK s k v with
  | true =>
    simp only [cellOK, decide_eq_true_eq] at hv
    exact lossSet_ok h s k v hv.1 hv.2.1 hv.2.2.1 hv.2.2.2.1 (decide_eq_true hv.2.2.2.2)
  | false =>
    refine (lossSet_bad s k v hv).mono ?_
    rintro e w' ⟨rfl, rfl⟩
    exact ⟨rfl, h, Keep.refl _ _⟩

def lpHave (zs : List Int) : Nat → LossM
  | 0 => []
  | k + 1 => lpNext (lpHave zs k) (zs.getD (k * 3) 0) (zs.getD (k * 3 + 1) 0) (zs.getD (k * 3 + 2) 0)
/-- What holds of all losses. -/
structure LossOK (m : LossM) : Prop where
  keys : KeysS m
  nd : (m.map (·.1)).Nodup
  nz : ∀ x ∈ m, x.2 ≠ 0
theorem mdel_length_le (m : LossM) (k : Int × Int) : (mdel m k).length ≤ m.length := by
  unfold mdel
  exact List.length_filter_le _ _
theorem LossOK.next {m : LossM} (h : LossOK m) (x1 x2 x3 : Int) : LossOK (lpNext m x1 x2 x3) ∧ (lpNext m x1 x2 x3).length ≤ m.length + 1 := by
  unfold lpNext
  cases hv : cellOK x1 x2 x3 with
  | false => rw [if_neg (by simp)]; exact ⟨h, by omega⟩
  | true =>
    rw [if_pos rfl]
    simp only [cellOK, decide_eq_true_eq] at hv
    have hk : KeysS (mput m (x1, x2) x3) := fun x hx => by
      rcases mem_mput hx with rfl | hx
      · simp only; omega
      · exact h.keys x hx
    have hnd := mnodup_mput h.nd (x1, x2) x3
    have hln := mput_length_le (m := m) (x1, x2) x3
    unfold mset
    by_cases h0 : x3 = 0
    · rw [if_pos h0]
      refine ⟨⟨fun x hx => hk x (mdel_mem hx), ?_, fun x hx => ?_⟩, Nat.le_trans (mdel_length_le _ _) hln⟩
      · unfold mdel
        exact (List.filter_sublist.map _).nodup hnd
      · have hx2 := (List.mem_filter.1 hx).2
        rcases mem_mput (mdel_mem hx) with rfl | hx
        · simp at hx2
        · exact h.nz x hx
    · rw [if_neg h0]
      refine ⟨⟨hk, hnd, fun x hx => ?_⟩, hln⟩
      rcases mem_mput hx with rfl | hx
      · exact h0
      · exact h.nz x hx
theorem lpHave_ok (zs : List Int) : ∀ k, LossOK (lpHave zs k) ∧ (lpHave zs k).length ≤ k
  | 0 => ⟨⟨(fun x hx => by simp [lpHave] at hx), List.nodup_nil, (fun x hx => by simp [lpHave] at hx)⟩, Nat.le_refl _⟩
  | k + 1 => by
    obtain ⟨h1, h2⟩ := lpHave_ok zs k
    obtain ⟨h3, h4⟩ := h1.next (zs.getD (k * 3) 0) (zs.getD (k * 3 + 1) 0) (zs.getD (k * 3 + 2) 0)
    exact ⟨h3, Nat.le_trans h4 (by omega)⟩
theorem LossOK.mem {m : LossM} (h : LossOK m) (k : Int × Int) : k ∈ m.map (·.1) ↔ (mget m k).getD 0 ≠ 0 := by
  rw [mem_keys_iff]
  cases hg : mget m k with
  | none => simp
  | some v => simpa using h.nz _ (mget_mem hg)

/-- The parts of the results. -/
def resI : Except Nat Int → Int
  | .ok n => n
  | .error _ => 0
def resE {α : Type} (p : Nat → Addr) : Except Nat α → Value
  | .ok _ => .nilIface
  | .error k => ev p k
def resC {α : Type} : Except Nat α → Int
  | .ok _ => 0
  | .error k => 101 + (k : Int)
def covI : Except Nat (Int × Int) → Int × Int
  | .ok n => n
  | .error _ => (0, 0)
theorem resV_eq (p : Nat → Addr) (R : Except Nat Int) : resV p R = .tuple #[.int .i64 (resI R), resE p R] := by cases R <;> rfl
theorem resN_eq (R : Except Nat Int) : resN R = .tuple #[.int .i64 (resI R), .int .i64 (resC R)] := by cases R <;> rfl
theorem covV_eq (p : Nat → Addr) (R : Except Nat (Int × Int)) : covV p R = .tuple #[.int .i64 (covI R).1, .int .i64 (covI R).2, resE p R] := by cases R <;> rfl
theorem covN_eq (R : Except Nat (Int × Int)) : covN R = .tuple #[.int .i64 (covI R).1, .int .i64 (covI R).2, .int .i64 (resC R)] := by cases R <;> rfl
theorem is_resE {α : Type} {B : Nat} {p : Nat → Addr} {w : World} (hE : Errs (List.range 21) B p w) (R : Except Nat α) (h : ∀ k, R = .error k → k < 21) :
    Calls Tryd.prog 19 #[resE p R, .int .i64 (resC R)] w fun e w' => e = .returned (.bool true) ∧ Below w.heap.size w w' := by
  cases R with
  | ok n => exact is_nil 0 w
  | error k =>
    refine (is_ev hE (h k rfl) (101 + (k : Int))).mono ?_
    rintro e w' ⟨rfl, hb⟩
    exact ⟨by simp, hb⟩
theorem topR_err {xs : List Int} {k : Nat} (h : topR xs = .error k) : k < 21 := by
  unfold topR at h
  split at h
  · split at h
    · cases h
    · cases h; omega
  · cases h; omega
theorem twoR_err {m : LossM} {s : Int} {xs : List Int} {k : Nat} (h : twoR m s xs = .error k) : k < 21 := by
  unfold twoR at h
  split at h
  · cases h; omega
  · split at h
    · first | exact topR_err h | (cases h; omega)
    · first | exact topR_err h | (cases h; omega)
theorem coverN_errk {m : LossM} {xs : List Int} : ∀ {n k : Nat}, coverN m xs n = .error k → k < 21
  | 0, k, h => by cases h
  | n + 1, k, h => by
    unfold coverN at h
    cases hc : coverN m xs n with
    | error e => rw [hc] at h; cases h; exact coverN_errk hc
    | ok q =>
      obtain ⟨a, b⟩ := q
      rw [hc] at h
      simp only at h
      cases ht : twoR m ((n : Int) + 1) xs with
      | error e => rw [ht] at h; cases h; exact twoR_err ht
      | ok n => rw [ht] at h; cases h
theorem slI_of_row {w : World} {c : Option Addr} {len cap : Nat} {ys : List Int} (h : IsRow .i64 w c len cap ys) : SlI w (.slice c len cap) (ys.take len) := by
  rcases h with ⟨rfl, rfl, rfl, rfl⟩ | ⟨x, rfl, h1, h2, h3, h4, h5⟩
  · exact SlI.nil w
  · have hl : (ys.take len).length = len := by rw [List.length_take]; omega
    refine ⟨some x, cap, by rw [hl], by rw [hl]; exact h1, h2, ?_⟩
    by_cases h0 : len = 0
    · left
      rw [h0]; rfl
    · right
      obtain ⟨b, off, rfl, hc⟩ := ints_at h4 (by omega)
      refine ⟨b, off, rfl, World.block_lt_of_cell? w ⟨b, off + 0, none⟩ (hc 0 (by omega)), fun i hi => ?_⟩
      rw [hl] at hi
      rw [hc i (by omega)]
      congr 2
      simp [List.getD, List.getElem?_take, hi]
/-- Element k of the row of cells, as a round reads it. -/
structure DR (w : World) (b o : Nat) (x1 x2 x3 : Int) : Prop where
  c0 : w.cell? ⟨b, o, none⟩ = some (.int .i64 x1)
  c1 : w.cell? ⟨b, o + 1, none⟩ = some (.int .i64 x2)
  c2 : w.cell? ⟨b, o + 2, none⟩ = some (.int .i64 x3)
theorem DR.keep {S : Nat → Prop} {w w' : World} {b o : Nat} {x1 x2 x3 : Int} (h : DR w b o x1 x2 x3) (k : Keep S w w') (hs : ¬ S b) : DR w' b o x1 x2 x3 := by
  have hlt : b < w.heap.size := World.block_lt_of_cell? w ⟨b, o, none⟩ h.c0
  exact ⟨(k.cell (x := ⟨b, o, none⟩) hlt hs).trans h.c0, (k.cell (x := ⟨b, o + 1, none⟩) hlt hs).trans h.c1, (k.cell (x := ⟨b, o + 2, none⟩) hlt hs).trans h.c2⟩
theorem DR.below {w w' : World} {b o : Nat} {x1 x2 x3 : Int} (h : DR w b o x1 x2 x3) (k : Below w.heap.size w w') : DR w' b o x1 x2 x3 := h.keep (S := fun _ => False) (Keep.of_below k) (fun h => h)
end Go.Proofs.YtehacchacgfjlaaDoor
