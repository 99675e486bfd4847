/- Package root: what may be a root, its bytes. -/
import Derived.Test.YtehacchacgfjlaaDoorDiskE
import Derived.Test.YtehacchacgfjlaaDoorRootLaw
import Derived.Laws.BitsLemmas
namespace Go.Proofs.YtehacchacgfjlaaDoor
open Go.Maps
open Go Go.RowKit
set_option linter.unusedSimpArgs false
set_option linter.unusedVariables false

def numB (n : Int) : Bool := decide (0 ≤ n) && decide (n ≤ 8192)
theorem numB_all (l : List Int) : l.all numB = true ↔ numsOk l := by
  unfold numsOk
  rw [List.all_eq_true]
  constructor
  · intro h n hn
    have := h n hn
    unfold numB at this
    simpa using this
  · intro h n hn
    have := h n hn
    unfold numB
    simpa using this
theorem notNum_calls (n : Int) (w : World) : Calls Tryd.prog 110 #[.int .i64 n] w fun e w' => e = .returned (.bool (!numB n)) ∧ w = w' := by
  by_cases h0 : n < 0
  · have H : Hid (numB n = false) := by unfold Hid numB; simp; omega
    go_enter Tryd.func110, Tryd.ntmps110
    go_wp2_with fail
    go_ret
    rw [H.out]
    exact ⟨rfl, rfl⟩
  · by_cases h1 : n ≤ 8192
    · have H : Hid (numB n = true) := by unfold Hid numB; simp; omega
      have hd : decide (8192 < n) = false := decide_eq_false (by omega)
      have h0' : 0 ≤ n := by omega
      go_enter Tryd.func110, Tryd.ntmps110
      go_wp2_with fail
      go_ret
      rw [H.out]
      exact ⟨rfl, rfl⟩
    · have H : Hid (numB n = false) := by unfold Hid numB; simp; omega
      have hd : decide (8192 < n) = true := decide_eq_true (by omega)
      have h0' : 0 ≤ n := by omega
      go_enter Tryd.func110, Tryd.ntmps110
      go_wp2_with fail
      go_ret
      rw [H.out]
      exact ⟨rfl, rfl⟩
theorem take_snocK {xs : List Int} {m : Nat} (h : m < xs.length) : xs.take (m + 1) = xs.take m ++ [xs.getD m 0] := by
  rw [List.take_succ_eq_append_getElem h]
  simp [List.getD, h]
set_option maxRecDepth 100000 in
theorem indexNum_calls {w : World} {v : Value} {xs : List Int} (hv : RdK .i64 w v xs) :
    Calls Tryd.prog 127 #[v, .func (.func 110) #[] #[]] w fun e w' => ∃ j : Int, e = .returned (.int .i64 j) ∧ Hid (decide (0 ≤ j) = !xs.all numB) ∧ w = w' := by
  obtain ⟨a, cap, rfl, hcap, hmx⟩ := hv.len
  unfold maxLen at hmx
  have HV := Lib.hid hv
  clear hv
  go_enter Tryd.func127, Tryd.ntmps127
  go_wp2_with fail
  go_loop [8] (fun i => ∃ m : Nat, m ≤ xs.length ∧ i = .int .i64 m ∧ Hid ((xs.take m).all numB = true)) (fun i => xs.length - (intOf i).toNat)
  case atStart => exact ⟨0, Nat.zero_le _, rfl, rfl⟩
  case round =>
    obtain ⟨m, hm, rfl, hall⟩ := hrel
    by_cases hlt : m < xs.length
    · rcases HV.out with ⟨h0, _⟩ | ⟨b, off, c, hvv, _, _, hb, hcell⟩
      · rw [h0] at hlt; simp at hlt
      simp only [Value.slice.injEq, true_and] at hvv
      obtain ⟨rfl, rfl⟩ := hvv
      have hc := hcell m hlt
      have HS := Lib.hid (take_snocK hlt)
      generalize xs.getD m 0 = x at hc HS
      clear hcell
      by_cases hx : numB x = true
      · have HX := Lib.hid hx
        clear hx
        have HA : Hid ((xs.take (m + 1)).all numB = true) := by
          unfold Hid; rw [HS.out, List.all_append, hall.out]; simpa using HX.out
        go_wp2_with (go_at_call 110; refine (notNum_calls _ _).mono ?_; rintro e w1 ⟨rfl, rfl⟩; rw [HX.out, Bool.not_true])
        go_round
        case rel => exact ⟨m + 1, by omega, by go_num, HA⟩
        case measure => simp [intOf]; omega
      · have hx' : numB x = false := by simpa using hx
        have HX := Lib.hid hx'
        have HN : Hid (xs.all numB = false) := by
          unfold Hid
          rw [← Bool.not_eq_true]
          intro h
          have h' : (xs.take (m + 1)).all numB = true := by
            rw [List.all_eq_true] at h ⊢
            exact fun y hy => h y (List.mem_of_mem_take hy)
          rw [HS.out, List.all_append] at h'
          simp [HX.out] at h'
        clear hx hx'
        go_wp2_with (go_at_call 110; refine (notNum_calls _ _).mono ?_; rintro e w1 ⟨rfl, rfl⟩; rw [HX.out, Bool.not_false])
        go_ret
        exact ⟨(m : Int), rfl, by unfold Hid; rw [HN.out]; simp, rfl⟩
    · obtain rfl : m = xs.length := by omega
      have hall' := hall.out
      rw [List.take_length] at hall'
      have Hall := Lib.hid hall'
      clear hall'
      go_wp2_with fail
      go_ret
      exact ⟨-1, rfl, by unfold Hid; rw [Hall.out]; rfl, rfl⟩
theorem containsNum_calls {w : World} {v : Value} {xs : List Int} (hv : RdK .i64 w v xs) :
    Calls Tryd.prog 109 #[v, .func (.func 110) #[] #[]] w fun e w' => e = .returned (.bool (!xs.all numB)) ∧ w = w' := by
  go_enter Tryd.func109, Tryd.ntmps109
  go_wp2_with fail
  refine (indexNum_calls hv).mono ?_
  rintro e w1 ⟨j, rfl, hj, rfl⟩
  go_wp2_with fail
  go_ret
  exact ⟨by rw [← hj.out]; rfl, rfl⟩
/-- Which error a root that may not be has. -/
def rootErr (e : Int) (l : List Int) : Nat := if (decide (1 ≤ e) && decide (e ≤ 1099511627776) && l.all numB) = true then 4 else 2
/-- A root as a value. -/
abbrev rootV (e : Int) (v : Value) : Value := .agg #[.int .i64 e, v]
set_option maxRecDepth 100000 in
theorem fits_ok {w : World} {e : Int} {v : Value} {l : List Int} (hv : RdK .i64 w v l) (h : rootOk e l) :
    Calls Tryd.prog 74 #[rootV e v] w fun r w' => r = .returned .nilIface ∧ Below w.heap.size w w' := by
  obtain ⟨⟨h1, h2⟩, h3, h4⟩ := h
  have HN : Hid (l.all numB = true) := (numB_all l).2 h3
  obtain ⟨a, c, rfl, _, _⟩ := hv.len
  have HV := Lib.hid (hv.below (show Below w.heap.size w (w.alloc (.cells #[.int .i64 e, .slice a l.length c] 48)) by (repeat (first | exact Below.refl _ _ | assumption | refine Below.drew ?_ | refine below_many ?_ _ | refine Below.alloc ?_ (by first | (simp; done) | (simp; omega) | omega) _ | refine Below.setCell ?_ (by first | (simp; done) | (simp; omega) | omega) _))))
  have hd1 : decide (1099511627776 < e) = false := decide_eq_false (by omega)
  have hd2 : decide (40 < l.length) = false := decide_eq_false (by omega)
  clear hv h3
  go_enter Tryd.func74, Tryd.ntmps74
  go_wp2_with fail
  refine (containsNum_calls HV.out).mono ?_
  rintro r w1 ⟨rfl, rfl⟩
  rw [HN.out]
  go_wp2_with fail
  go_ret
  exact ⟨rfl, by (repeat (first | exact Below.refl _ _ | assumption | refine Below.drew ?_ | refine below_many ?_ _ | refine Below.alloc ?_ (by first | (simp; done) | (simp; omega) | omega) _ | refine Below.setCell ?_ (by first | (simp; done) | (simp; omega) | omega) _))⟩
set_option maxRecDepth 100000 in
theorem fits_bad {ks : List Nat} {B : Nat} {p : Nat → Addr} {w : World} (hE : Errs ks B p w) (hk2 : 2 ∈ ks) (hk4 : 4 ∈ ks) {e : Int} {v : Value} {l : List Int} (hv : RdK .i64 w v l) (h : ¬ rootOk e l) :
    Calls Tryd.prog 74 #[rootV e v] w fun r w' => r = .returned (ev p (rootErr e l)) ∧ Below w.heap.size w w' := by
  obtain ⟨a, c, rfl, _, _⟩ := hv.len
  have hb0 : Below w.heap.size w (w.alloc (.cells #[.int .i64 e, .slice a l.length c] 48)) := by (repeat (first | exact Below.refl _ _ | assumption | refine Below.drew ?_ | refine below_many ?_ _ | refine Below.alloc ?_ (by first | (simp; done) | (simp; omega) | omega) _ | refine Below.setCell ?_ (by first | (simp; done) | (simp; omega) | omega) _))
  have HV := Lib.hid (hv.below hb0)
  have c2 := hE.cell 2 hk2
  have c4 := hE.cell 4 hk4
  simp only [gl] at c2 c4
  have hg2 := World.block_lt_of_cell? w _ c2
  have hg4 := World.block_lt_of_cell? w _ c4
  try unfold ev errV at c2 c4
  unfold ev errV
  clear hv hE
  by_cases h1 : e < 1
  · have H : Hid (rootErr e l = 2) := by unfold Hid rootErr; rw [decide_eq_false (show ¬ 1 ≤ e by omega)]; rfl
    go_enter Tryd.func74, Tryd.ntmps74
    go_wp2_with fail
    go_ret
    exact ⟨by rw [H.out]; rfl, by (repeat (first | exact Below.refl _ _ | assumption | refine Below.drew ?_ | refine below_many ?_ _ | refine Below.alloc ?_ (by first | (simp; done) | (simp; omega) | omega) _ | refine Below.setCell ?_ (by first | (simp; done) | (simp; omega) | omega) _))⟩
  have h1' : 1 ≤ e := by omega
  by_cases h2 : e ≤ 1099511627776
  · have hd1 : decide (1099511627776 < e) = false := decide_eq_false (by omega)
    cases hN : l.all numB with
    | true =>
      have HN := Lib.hid hN
      have hl : 40 < l.length := Nat.lt_of_not_le fun h5 => h ⟨⟨h1', h2⟩, (numB_all l).1 hN, h5⟩
      have H : Hid (rootErr e l = 4) := by unfold Hid rootErr; rw [decide_eq_true h1', decide_eq_true h2, hN]; rfl
      have hd2 : decide (40 < l.length) = true := decide_eq_true hl
      clear hN h
      go_enter Tryd.func74, Tryd.ntmps74
      go_wp2_with fail
      refine (containsNum_calls HV.out).mono ?_
      rintro r w1 ⟨rfl, rfl⟩
      rw [HN.out]
      go_wp2_with fail
      go_ret
      exact ⟨by rw [H.out]; rfl, by (repeat (first | exact Below.refl _ _ | assumption | refine Below.drew ?_ | refine below_many ?_ _ | refine Below.alloc ?_ (by first | (simp; done) | (simp; omega) | omega) _ | refine Below.setCell ?_ (by first | (simp; done) | (simp; omega) | omega) _))⟩
    | false =>
      have HN := Lib.hid hN
      have H : Hid (rootErr e l = 2) := by unfold Hid rootErr; rw [hN]; simp
      clear hN h
      go_enter Tryd.func74, Tryd.ntmps74
      go_wp2_with fail
      refine (containsNum_calls HV.out).mono ?_
      rintro r w1 ⟨rfl, rfl⟩
      rw [HN.out]
      go_wp2_with fail
      go_ret
      exact ⟨by rw [H.out]; rfl, by (repeat (first | exact Below.refl _ _ | assumption | refine Below.drew ?_ | refine below_many ?_ _ | refine Below.alloc ?_ (by first | (simp; done) | (simp; omega) | omega) _ | refine Below.setCell ?_ (by first | (simp; done) | (simp; omega) | omega) _))⟩
  · have hd1 : decide (1099511627776 < e) = true := decide_eq_true (by omega)
    have H : Hid (rootErr e l = 2) := by unfold Hid rootErr; rw [decide_eq_false h2]; simp
    go_enter Tryd.func74, Tryd.ntmps74
    go_wp2_with fail
    go_ret
    exact ⟨by rw [H.out]; rfl, by (repeat (first | exact Below.refl _ _ | assumption | refine Below.drew ?_ | refine below_many ?_ _ | refine Below.alloc ?_ (by first | (simp; done) | (simp; omega) | omega) _ | refine Below.setCell ?_ (by first | (simp; done) | (simp; omega) | omega) _))⟩
end Go.Proofs.YtehacchacgfjlaaDoor
