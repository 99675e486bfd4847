/- money.Total, fix.Sum: sums of amounts that are each from 0 to the greatest. -/
import Derived.Test.YtkdmedmlbglgmaaDoorAmt
import Derived.Laws.Externs
namespace Go.Proofs.YtkdmedmlbglgmaaDoor
open Go Go.RowKit
set_option linter.unusedSimpArgs false
set_option linter.unusedVariables false

theorem within_calls (n q : Int) (w : World) : Calls Tryd.prog 88 #[.int .i64 n, .int .i64 q] w fun e w' => e = .returned (.bool (decide (0 ≤ n ∧ n ≤ q))) ∧ w = w' := by
  by_cases h : 0 ≤ n
  · have h' : decide (0 ≤ n) = true := decide_eq_true h
    rw [show decide (0 ≤ n ∧ n ≤ q) = decide (n ≤ q) from decide_eq_decide.2 (by omega)]
    go_enter Tryd.func88, Tryd.ntmps88
    go_wp2
    go_ret
    exact ⟨rfl, rfl⟩
  · have h' : decide (0 ≤ n) = false := decide_eq_false h
    rw [show decide (0 ≤ n ∧ n ≤ q) = false from decide_eq_false (by omega)]
    go_enter Tryd.func88, Tryd.ntmps88
    go_wp2
    go_ret
    exact ⟨rfl, rfl⟩

theorem add64_run (x y : Int) (hx : 0 ≤ x) (hy : 0 ≤ y) (h : x + y < 18446744073709551616) (w : World) :
    (callFunc 133 #[.int .u64 x, .int .u64 y, .int .u64 0]).run Tryd.prog w = .ok (.value (.tuple #[.int .u64 (x + y), .int .u64 0])) w := by
  rw [run_callFunc_extern (e := add64Entry) Tryd.func133 (by kernel_rfl) (by kernel_rfl) (by kernel_rfl) (by kernel_rfl), run_add64 x y 0 hx hy (by omega) (by omega)]
  simp only [Result.andThen, Int.add_zero]
  rw [Int.emod_eq_of_lt (by omega) h, Int.ediv_eq_zero_of_lt (by omega) h]

set_option maxRecDepth 100000 in
theorem plus_calls (lo n : Int) (h1 : 0 ≤ lo) (h2 : lo ≤ 4000000000000000000) (h3 : 0 ≤ n) (h4 : n ≤ 4000000000000000000) (w : World) :
    Calls Tryd.prog 106 #[.agg #[.int .i64 0, .int .u64 lo], .int .i64 n] w fun e w' => e = .returned (.agg #[.int .i64 0, .int .u64 (lo + n)]) ∧ Below w.heap.size w w' := by
  have ha := add64_run lo n h1 h3 (by omega)
  have hq : n / 9223372036854775808 = 0 := Int.ediv_eq_zero_of_lt h3 (by omega)
  go_enter Tryd.func106, Tryd.ntmps106
  go_wp2_with (simp only [ha])
  refine bodyPost_ret (v := .agg #[.int .i64 0, .int .u64 (lo + n)]) (by simp [results, Tryd.results106, go_sem]) rfl ⟨rfl, by (repeat (first | exact Below.refl _ _ | assumption | refine Below.drew ?_ | refine below_many ?_ _ | refine Below.alloc ?_ (by first | (simp; done) | (simp; omega) | omega) _ | refine Below.setCell ?_ (by first | (simp; done) | (simp; omega) | omega) _))⟩

theorem sum_take_snoc {xs : List Int} {m : Nat} (h : m < xs.length) : (xs.take (m + 1)).sum = (xs.take m).sum + xs.getD m 0 := by
  rw [take_snoc h]; simp
theorem sum_take_bd {xs : List Int} (hx : xs.all isAmt = true) : ∀ m : Nat, m ≤ xs.length → 0 ≤ (xs.take m).sum ∧ (xs.take m).sum ≤ 1000000000000000 * (m : Int)
  | 0, _ => by simp
  | m + 1, h => by
    have ih := sum_take_bd hx m (by omega)
    have hm : m < xs.length := by omega
    rw [sum_take_snoc hm]
    have h1 := List.all_eq_true.1 hx (xs.getD m 0) (by simp [List.getD, hm])
    simp only [isAmt, decide_eq_true_eq] at h1
    omega

set_option maxRecDepth 100000 in
/-- fix.Sum of amounts. -/
theorem fixSum_calls {w : World} {v : Value} {xs : List Int} (hv : SlI w v xs) (hx : xs.all isAmt = true) (hl : xs.length ≤ 1000) :
    Calls Tryd.prog 89 #[v] w fun e w' => e = .returned (.tuple #[.int .i64 xs.sum, .bool true]) ∧ Below w.heap.size w w' := by
  obtain ⟨a, cap, rfl, hcap, hmx, hcells⟩ := hv
  unfold maxLen at hmx
  have HC : Hid (xs = [] ∨ ∃ b off, a = some ⟨b, off, none⟩ ∧ b < w.heap.size ∧ ∀ i, i < xs.length → w.cell? ⟨b, off + i, none⟩ = some (.int .i64 (xs.getD i 0))) := hcells
  have HX := Lib.hid hx
  clear hcells hx
  go_enter Tryd.func89, Tryd.ntmps89
  go_wp2_with fail
  go_loopw [10] (fun i wq => ∃ m : Nat, m ≤ xs.length ∧ i = .int .i64 m ∧ Hid (Below w.heap.size w wq) ∧ wq.cell? ⟨w.heap.size, 0, none⟩ = some (.int .i64 0) ∧ wq.cell? ⟨w.heap.size, 1, none⟩ = some (.int .u64 (xs.take m).sum) ∧ wq.frozen? ⟨w.heap.size, 0, none⟩ = false ∧ wq.frozen? ⟨w.heap.size, 1, none⟩ = false ∧ w.heap.size < wq.heap.size) (fun i _ => xs.length - (intOf i).toNat)
  case atStart => exact ⟨0, Nat.zero_le _, rfl, by show Below _ _ _; (repeat (first | exact Below.refl _ _ | assumption | refine Below.drew ?_ | refine below_many ?_ _ | refine Below.alloc ?_ (by first | (simp; done) | (simp; omega) | omega) _ | refine Below.setCell ?_ (by first | (simp; done) | (simp; omega) | omega) _)), by go_simp, by go_simp, by go_simp, by go_simp, by simp⟩
  case round =>
    obtain ⟨m, hm, rfl, hB, hc0, hc1, hf0, hf1, hlt⟩ := hrel
    have hbd := sum_take_bd HX.out m hm
    by_cases hlm : m < xs.length
    · obtain ⟨b, off, rfl, hb, hcell⟩ := HC.out.resolve_left (by intro e; rw [e] at hlm; simp at hlm)
      have hc := (hB.out.cell (p := ⟨b, off + m, none⟩) hb).trans (hcell m hlm)
      have HS := Lib.hid (sum_take_snoc hlm)
      have hxm : 0 ≤ xs.getD m 0 ∧ xs.getD m 0 ≤ 1000000000000000 := by
        have h1 := List.all_eq_true.1 HX.out (xs.getD m 0) (by simp [List.getD, hlm])
        simpa [isAmt] using h1
      generalize xs.getD m 0 = x at hc HS hxm
      clear hcell
      generalize (xs.take m).sum = S at hc1 HS hbd
      go_wp2_with fail
      refine (plus_calls S x (by omega) (by omega) (by omega) (by omega) _).mono ?_
      rintro e w1 ⟨rfl, hb1⟩
      have hc0' := (hb1.cell (p := ⟨w.heap.size, 0, none⟩) hlt).trans hc0
      have hc1' := (hb1.cell (p := ⟨w.heap.size, 1, none⟩) hlt).trans hc1
      have hf0' := (hb1.frozen (p := ⟨w.heap.size, 0, none⟩) hlt).trans hf0
      have hf1' := (hb1.frozen (p := ⟨w.heap.size, 1, none⟩) hlt).trans hf1
      have hB1 : Below w.heap.size w w1 := hB.out.trans (hb1.mono hB.out.size)
      have hlt1 : w.heap.size < w1.heap.size := Nat.lt_of_lt_of_le hlt hb1.size
      clear hc0 hc1 hf0 hf1 hB hb1
      go_wp2_with fail
      go_roundw
      case rel => exact ⟨m + 1, by omega, by go_num, by show Below _ _ _; (repeat (first | exact Below.refl _ _ | assumption | refine Below.drew ?_ | refine below_many ?_ _ | refine Below.alloc ?_ (by first | (simp; done) | (simp; omega) | omega) _ | refine Below.setCell ?_ (by first | (simp; done) | (simp; omega) | omega) _)), by go_simp, by rw [HS.out]; go_simp, by go_simp, by go_simp, by simp [World.setCell]; omega⟩
      case measure => simp [intOf]; omega
    · obtain rfl : m = xs.length := by omega
      rw [List.take_length] at hc1 hbd
      have hq : xs.sum / 9223372036854775808 = 0 := Int.ediv_eq_zero_of_lt hbd.1 (by omega)
      have hS : xs.sum ≤ 1000000000000000000 := by omega
      generalize hSS : xs.sum = S at hc1 hbd hq hS
      have HSS := Lib.hid hSS
      clear hSS
      go_wp2_with fail
      go_ret2
      exact ⟨by rw [HSS.out]; rfl, hB.out⟩

/-- What money.Total makes of amounts. -/
def totR (xs : List Int) : Except Nat Int := if xs.sum ≤ 1000000000000000 then .ok xs.sum else .error 3

set_option maxRecDepth 100000 in
theorem total_calls {ks : List Nat} {B : Nat} {p : Nat → Addr} {w : World} (hE : Errs ks B p w) (h3 : 3 ∈ ks) {v : Value} {xs : List Int} (hv : SlI w v xs) (hx : xs.all isAmt = true) (hl : xs.length ≤ 1000) :
    Calls Tryd.prog 69 #[v] w fun e w' => e = .returned (resV p (totR xs)) ∧ Below w.heap.size w w' := by
  have c3 := hE.cell 3 h3
  simp only [gl] at c3
  have HV := Lib.hid hv
  obtain ⟨a, cap, rfl, hcap, hmx, hcells⟩ := hv
  unfold maxLen at hmx
  have HC : Hid (xs = [] ∨ ∃ b off, a = some ⟨b, off, none⟩ ∧ b < w.heap.size ∧ ∀ i, i < xs.length → w.cell? ⟨b, off + i, none⟩ = some (.int .i64 (xs.getD i 0))) := hcells
  have HX := Lib.hid hx
  clear hcells hx hE h3
  go_enter Tryd.func69, Tryd.ntmps69
  go_wp2_with fail
  go_loop [10] (fun i => ∃ m : Nat, m ≤ xs.length ∧ i = .int .i64 m) (fun i => xs.length - (intOf i).toNat)
  case atStart => exact ⟨0, Nat.zero_le _, rfl⟩
  case round =>
    obtain ⟨m, hm, rfl⟩ := hrel
    by_cases hlm : m < xs.length
    · obtain ⟨b, off, rfl, hb, hcell⟩ := HC.out.resolve_left (by intro e; rw [e] at hlm; simp at hlm)
      have hc := hcell m hlm
      have HXm : Hid (decide (0 ≤ xs.getD m 0 ∧ xs.getD m 0 ≤ 1000000000000000) = true) := by
        have h1 := List.all_eq_true.1 HX.out (xs.getD m 0) (by simp [List.getD, hlm])
        exact h1
      generalize xs.getD m 0 = x at hc HXm
      clear hcell
      go_wp2_with (go_at_call 88; refine (within_calls _ _ _).mono ?_; rintro e w1 ⟨rfl, rfl⟩; rw [HXm.out])
      go_round
      case rel => exact ⟨m + 1, by omega, by go_num⟩
      case measure => simp [intOf]; omega
    · obtain rfl : m = xs.length := by omega
      have hbd := sum_take_bd HX.out xs.length (Nat.le_refl _)
      rw [List.take_length] at hbd
      go_wp2_with fail
      refine (fixSum_calls HV.out HX.out hl).mono ?_
      rintro e w1 ⟨rfl, hb1⟩
      have c3' := (hb1.cell (p := ⟨6, 0, none⟩) (World.block_lt_of_cell? w _ c3)).trans c3
      have HB1 := Lib.hid hb1
      clear c3 hb1
      by_cases hs : xs.sum ≤ 1000000000000000
      · have HR : Hid (resV p (totR xs) = .tuple #[.int .i64 xs.sum, .nilIface]) := by unfold Hid totR; rw [if_pos hs]; rfl
        generalize xs.sum = S at hs hbd HR ⊢
        go_wp2_with fail
        go_ret2
        exact ⟨by rw [HR.out]; rfl, HB1.out⟩
      · have HR : Hid (resV p (totR xs) = .tuple #[.int .i64 0, ev p 3]) := by unfold Hid totR; rw [if_neg hs]; rfl
        have hs' : 1000000000000000 < xs.sum := by omega
        generalize xs.sum = S at hs' hbd HR ⊢
        clear hs
        go_wp2_with fail
        go_quiet (fail)
        go_wp2_with fail
        go_ret2
        exact ⟨by rw [HR.out]; rfl, by have := HB1.out; (repeat (first | exact Below.refl _ _ | assumption | refine Below.drew ?_ | refine below_many ?_ _ | refine Below.alloc ?_ (by first | (simp; done) | (simp; omega) | omega) _ | refine Below.setCell ?_ (by first | (simp; done) | (simp; omega) | omega) _))⟩

end Go.Proofs.YtkdmedmlbglgmaaDoor
