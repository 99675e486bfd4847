/- The walk of pledgelaw14.HoldBack: it returns true, and writes nothing that was there. -/
import Derived.Test.YtfecgcdceegdlaaDoorHoldAt
import Derived.Test.YtfecgcdceegdlaaDoorFlat
namespace Go.Proofs.YtfecgcdceegdlaaDoor
open Go.Maps
open Go Go.RowKit
set_option linter.unusedSimpArgs false
set_option linter.unusedVariables false

theorem put_one (x y a : Int) : mput ([] : SpotM) (x, y) (0 + a) = [((x, y), a)] := by simp [mput, mget]
theorem get_one (x y a : Int) : (mget [((x, y), a)] (x, y)).getD 0 = a := by simp [mget]
theorem put_same (x y a c : Int) : mput [((x, y), a)] (x, y) c = [((x, y), c)] := by simp [mput, mget]
theorem del_one (x y a : Int) : mdel [((x, y), a)] (x, y) = [] := by simp [mdel]
set_option maxHeartbeats 4000000 in
set_option maxRecDepth 100000 in
theorem back_bad {p : Nat → Addr} {w : World} (hE : Errs (List.range 21) w.heap.size p w) (s k a b : Int) (hv : spotOK s k a = false) :
    Calls Tryd.prog 6 #[pairV (s, k), .int .i64 a, .int .i64 b] w fun e w' => e = .returned (.bool true) ∧ Below w.heap.size w w' := by
  have HV := Lib.hid hv; clear hv
  have HE := Lib.hid hE; clear hE
  go_enter Tryd.func6, Tryd.ntmps6
  go_wp2_with fail
  obtain ⟨W0, hW0⟩ : ∃ W0, W0 = w.alloc (Obj.cells #[.int .i64 s, .int .i64 k] 55) := ⟨_, rfl⟩
  have hb0 : Below w.heap.size w W0 := by rw [hW0]; (repeat (first | exact Below.refl _ _ | assumption | refine Below.drew ?_ | refine below_many ?_ _ | refine Below.alloc ?_ (by first | (simp; done) | (simp; omega) | omega) _ | refine Below.setCell ?_ (by first | (simp; done) | (simp; omega) | omega) _))
  have Q0 : W0.cell? ⟨w.heap.size, 0, none⟩ = some (.int .i64 s) := by rw [hW0]; go_simp
  have Q1 : W0.cell? ⟨w.heap.size, 1, none⟩ = some (.int .i64 k) := by rw [hW0]; go_simp
  have hlt0 : w.heap.size < W0.heap.size := by rw [hW0]; simp
  have hle : w.heap.size ≤ W0.heap.size := Nat.le_of_lt hlt0
  rw [← hW0]
  have HE0 := Lib.hid (HE.out.below hb0)
  clear hW0
  refine (first14_calls HE0.out).mono ?_
  rintro e v1 ⟨rfl, hv1⟩
  have c0 := (hv1.cell (p := ⟨w.heap.size, 0, none⟩) hlt0).trans Q0
  have c1 := (hv1.cell (p := ⟨w.heap.size, 1, none⟩) hlt0).trans Q1
  have hsv := hv1.size
  have hlv : w.heap.size < v1.heap.size := Nat.lt_of_lt_of_le hlt0 hsv
  go_wp2_with fail
  obtain ⟨w0, hw0⟩ : ∃ w0, w0 = v1.alloc (Obj.cells #[.map none] 53) := ⟨_, rfl⟩
  have HH0 : Hid (HoldAt W0.heap.size w0 v1.heap.size []) := by rw [hw0]; exact hold_new _ _
  have hB0 : Below W0.heap.size W0 w0 := by rw [hw0]; (repeat (first | exact Below.refl _ _ | assumption | refine Below.drew ?_ | refine below_many ?_ _ | refine Below.alloc ?_ (by first | (simp; done) | (simp; omega) | omega) _ | refine Below.setCell ?_ (by first | (simp; done) | (simp; omega) | omega) _))
  rw [← hw0]
  have hs0 := hB0.size
  have htb : W0.heap.size ≤ v1.heap.size := hsv
  generalize v1.heap.size = tb at HH0 htb ⊢
  clear hw0 hv1 hsv
  try clear c0 c1
  have c0 := (hB0.cell (p := ⟨w.heap.size, 0, none⟩) hlt0).trans Q0
  have c1 := (hB0.cell (p := ⟨w.heap.size, 1, none⟩) hlt0).trans Q1
  try go_wp2_with fail
  refine (hold_put_bad (HE0.out.below (hB0.mono hle)) (by decide) HH0.out hs0 s k a HV.out).mono ?_
  rintro e w1 ⟨rfl, hH, hb⟩
  rw [show ev p 2 = Value.iface 230 (.pointer (some (p 2))) from rfl]
  have hB1 := hB0.trans hb
  have HH1 := Lib.hid hH
  have hs1 := hB1.size
  clear hH hb c0 c1 HH0 hs0 hB0
  have c0 := (hB1.cell (p := ⟨w.heap.size, 0, none⟩) hlt0).trans Q0
  have c1 := (hB1.cell (p := ⟨w.heap.size, 1, none⟩) hlt0).trans Q1
  go_wp2_with fail
  refine (hold_all1 HH1.out (by decide)).mono ?_
  rintro e w2 ⟨ad2, cp2, rfl, hb⟩
  try simp only [List.length_cons, List.length_nil]
  have HH2 := Lib.hid (HH1.out.below hb)
  have hB2 := hB1.trans (hb.mono hB1.size)
  have hs2 := hB2.size
  clear hb c0 c1 HH1 hs1 hB1
  have c0 := (hB2.cell (p := ⟨w.heap.size, 0, none⟩) hlt0).trans Q0
  have c1 := (hB2.cell (p := ⟨w.heap.size, 1, none⟩) hlt0).trans Q1
  go_wp2_with fail
  go_ret
  exact ⟨rfl, hb0.trans (hB2.mono hle)⟩

set_option maxHeartbeats 4000000 in
set_option maxRecDepth 100000 in
theorem back_bad_short {p : Nat → Addr} {w : World} (hE : Errs (List.range 21) w.heap.size p w) (s k a b : Int) (hv : spotOK s k a = true) (ha : 1 ≤ a ∧ a ≤ 1000000000000) (l0 : -9223372036854775808 ≤ b) (u0 : b ≤ 9223372036854775807) (hvb : spotOK s k b = false) (hva : spotOK s k (a + 1) = true) (hlt : a < 1000000000000) :
    Calls Tryd.prog 6 #[pairV (s, k), .int .i64 a, .int .i64 b] w fun e w' => e = .returned (.bool true) ∧ Below w.heap.size w w' := by
  have HV := Lib.hid hv; clear hv
  have HVB := Lib.hid hvb; clear hvb
  have HVA := Lib.hid hva; clear hva
  have hws : (Lit.int .i64 s).wf = true := by have := HV.out; simp only [spotOK, decide_eq_true_eq] at this; exact i64wf (by omega) (by omega)
  have hwk : (Lit.int .i64 k).wf = true := by have := HV.out; simp only [spotOK, decide_eq_true_eq] at this; exact i64wf (by omega) (by omega)
  have kl : decide (a < 1000000000000) = true := decide_eq_true hlt
  have HE := Lib.hid hE; clear hE
  go_enter Tryd.func6, Tryd.ntmps6
  go_wp2_with fail
  obtain ⟨W0, hW0⟩ : ∃ W0, W0 = w.alloc (Obj.cells #[.int .i64 s, .int .i64 k] 55) := ⟨_, rfl⟩
  have hb0 : Below w.heap.size w W0 := by rw [hW0]; (repeat (first | exact Below.refl _ _ | assumption | refine Below.drew ?_ | refine below_many ?_ _ | refine Below.alloc ?_ (by first | (simp; done) | (simp; omega) | omega) _ | refine Below.setCell ?_ (by first | (simp; done) | (simp; omega) | omega) _))
  have Q0 : W0.cell? ⟨w.heap.size, 0, none⟩ = some (.int .i64 s) := by rw [hW0]; go_simp
  have Q1 : W0.cell? ⟨w.heap.size, 1, none⟩ = some (.int .i64 k) := by rw [hW0]; go_simp
  have hlt0 : w.heap.size < W0.heap.size := by rw [hW0]; simp
  have hle : w.heap.size ≤ W0.heap.size := Nat.le_of_lt hlt0
  rw [← hW0]
  have HE0 := Lib.hid (HE.out.below hb0)
  clear hW0
  refine (first14_calls HE0.out).mono ?_
  rintro e v1 ⟨rfl, hv1⟩
  have c0 := (hv1.cell (p := ⟨w.heap.size, 0, none⟩) hlt0).trans Q0
  have c1 := (hv1.cell (p := ⟨w.heap.size, 1, none⟩) hlt0).trans Q1
  have hsv := hv1.size
  have hlv : w.heap.size < v1.heap.size := Nat.lt_of_lt_of_le hlt0 hsv
  go_wp2_with fail
  obtain ⟨w0, hw0⟩ : ∃ w0, w0 = v1.alloc (Obj.cells #[.map none] 53) := ⟨_, rfl⟩
  have HH0 : Hid (HoldAt W0.heap.size w0 v1.heap.size []) := by rw [hw0]; exact hold_new _ _
  have hB0 : Below W0.heap.size W0 w0 := by rw [hw0]; (repeat (first | exact Below.refl _ _ | assumption | refine Below.drew ?_ | refine below_many ?_ _ | refine Below.alloc ?_ (by first | (simp; done) | (simp; omega) | omega) _ | refine Below.setCell ?_ (by first | (simp; done) | (simp; omega) | omega) _))
  rw [← hw0]
  have hs0 := hB0.size
  have htb : W0.heap.size ≤ v1.heap.size := hsv
  generalize v1.heap.size = tb at HH0 htb ⊢
  clear hw0 hv1 hsv
  try clear c0 c1
  have c0 := (hB0.cell (p := ⟨w.heap.size, 0, none⟩) hlt0).trans Q0
  have c1 := (hB0.cell (p := ⟨w.heap.size, 1, none⟩) hlt0).trans Q1
  try go_wp2_with fail
  refine (hold_put (HE0.out.below (hB0.mono hle)) (by decide) HH0.out hs0 htb s k a 0 HV.out rfl (by decide) (by decide) (by omega)).mono ?_
  rintro e w1 ⟨rfl, hH, hb⟩
  rw [put_one] at hH
  have hB1 := hB0.trans hb
  have HH1 := Lib.hid hH
  have hs1 := hB1.size
  clear hH hb c0 c1 HH0 hs0 hB0
  have c0 := (hB1.cell (p := ⟨w.heap.size, 0, none⟩) hlt0).trans Q0
  have c1 := (hB1.cell (p := ⟨w.heap.size, 1, none⟩) hlt0).trans Q1
  go_wp2_with fail
  refine (hold_put_bad (HE0.out.below (hB1.mono hle)) (by decide) HH1.out hs1 s k b HVB.out).mono ?_
  rintro e w2 ⟨rfl, hH, hb⟩
  rw [show ev p 2 = Value.iface 230 (.pointer (some (p 2))) from rfl]
  have hB2 := hB1.trans hb
  have HH2 := Lib.hid hH
  have hs2 := hB2.size
  clear hH hb c0 c1 HH1 hs1 hB1
  have c0 := (hB2.cell (p := ⟨w.heap.size, 0, none⟩) hlt0).trans Q0
  have c1 := (hB2.cell (p := ⟨w.heap.size, 1, none⟩) hlt0).trans Q1
  go_wp2_with fail
  refine (hold_take_short (HE0.out.below (hB2.mono hle)) (by decide) (by decide) HH2.out hs2 s k (a + 1) a HVA.out (get_one _ _ _) (by omega)).mono ?_
  rintro e w3 ⟨rfl, hH, hb⟩
  rw [show ev p 12 = Value.iface 230 (.pointer (some (p 12))) from rfl]
  have hB3 := hB2.trans hb
  have HH3 := Lib.hid hH
  have hs3 := hB3.size
  clear hH hb c0 c1 HH2 hs2 hB2
  have c0 := (hB3.cell (p := ⟨w.heap.size, 0, none⟩) hlt0).trans Q0
  have c1 := (hB3.cell (p := ⟨w.heap.size, 1, none⟩) hlt0).trans Q1
  go_wp2_with fail
  refine (is_ev (HE0.out.below (hB3.mono hle)) (k := 12) (by decide) 113).mono ?_
  rintro e w4 ⟨rfl, hb⟩
  rw [show ((101 + ((12 : Nat) : Int)) == 113) = true from rfl]
  have HH4 := Lib.hid (HH3.out.below hb)
  have hB4 := hB3.trans (hb.mono hB3.size)
  have hs4 := hB4.size
  clear hb c0 c1 HH3 hs3 hB3
  have c0 := (hB4.cell (p := ⟨w.heap.size, 0, none⟩) hlt0).trans Q0
  have c1 := (hB4.cell (p := ⟨w.heap.size, 1, none⟩) hlt0).trans Q1
  go_wp2_with fail
  refine (hold_get HH4.out s k hws hwk).mono ?_
  rintro e w5 ⟨rfl, hb⟩
  rw [get_one]
  have HH5 := Lib.hid (HH4.out.below hb)
  have hB5 := hB4.trans (hb.mono hB4.size)
  have hs5 := hB5.size
  clear hb c0 c1 HH4 hs4 hB4
  have c0 := (hB5.cell (p := ⟨w.heap.size, 0, none⟩) hlt0).trans Q0
  have c1 := (hB5.cell (p := ⟨w.heap.size, 1, none⟩) hlt0).trans Q1
  go_wp2_with fail
  refine (hold_all1 HH5.out (by simp)).mono ?_
  rintro e w6 ⟨ad6, cp6, rfl, hb⟩
  try simp only [List.length_cons, List.length_nil]
  have HH6 := Lib.hid (HH5.out.below hb)
  have hB6 := hB5.trans (hb.mono hB5.size)
  have hs6 := hB6.size
  clear hb c0 c1 HH5 hs5 hB5
  have c0 := (hB6.cell (p := ⟨w.heap.size, 0, none⟩) hlt0).trans Q0
  have c1 := (hB6.cell (p := ⟨w.heap.size, 1, none⟩) hlt0).trans Q1
  go_wp2_with fail
  refine (hold_take_all (HE0.out.below (hB6.mono hle)) (by decide) HH6.out hs6 htb s k a HV.out (get_one _ _ _)).mono ?_
  rintro e w7 ⟨rfl, hH, hb⟩
  rw [del_one] at hH
  have hB7 := hB6.trans hb
  have HH7 := Lib.hid hH
  have hs7 := hB7.size
  clear hH hb c0 c1 HH6 hs6 hB6
  have c0 := (hB7.cell (p := ⟨w.heap.size, 0, none⟩) hlt0).trans Q0
  have c1 := (hB7.cell (p := ⟨w.heap.size, 1, none⟩) hlt0).trans Q1
  go_wp2_with fail
  refine (hold_all1 HH7.out (by decide)).mono ?_
  rintro e w8 ⟨ad8, cp8, rfl, hb⟩
  try simp only [List.length_cons, List.length_nil]
  have HH8 := Lib.hid (HH7.out.below hb)
  have hB8 := hB7.trans (hb.mono hB7.size)
  have hs8 := hB8.size
  clear hb c0 c1 HH7 hs7 hB7
  have c0 := (hB8.cell (p := ⟨w.heap.size, 0, none⟩) hlt0).trans Q0
  have c1 := (hB8.cell (p := ⟨w.heap.size, 1, none⟩) hlt0).trans Q1
  go_wp2_with fail
  refine (hold_of0 HH8.out s).mono ?_
  rintro e w9 ⟨ad9, cp9, rfl, hb⟩
  have HH9 := Lib.hid (HH8.out.below hb)
  have hB9 := hB8.trans (hb.mono hB8.size)
  have hs9 := hB9.size
  clear hb c0 c1 HH8 hs8 hB8
  have c0 := (hB9.cell (p := ⟨w.heap.size, 0, none⟩) hlt0).trans Q0
  have c1 := (hB9.cell (p := ⟨w.heap.size, 1, none⟩) hlt0).trans Q1
  go_wp2_with fail
  go_ret
  exact ⟨rfl, hb0.trans (hB9.mono hle)⟩

set_option maxHeartbeats 4000000 in
set_option maxRecDepth 100000 in
theorem back_bad_most {p : Nat → Addr} {w : World} (hE : Errs (List.range 21) w.heap.size p w) (s k a b : Int) (hv : spotOK s k a = true) (ha : 1 ≤ a ∧ a ≤ 1000000000000) (l0 : -9223372036854775808 ≤ b) (u0 : b ≤ 9223372036854775807) (hvb : spotOK s k b = false) (hva : spotOK s k (a + 1) = false) (hlt : a = 1000000000000) :
    Calls Tryd.prog 6 #[pairV (s, k), .int .i64 a, .int .i64 b] w fun e w' => e = .returned (.bool true) ∧ Below w.heap.size w w' := by
  have HV := Lib.hid hv; clear hv
  have HVB := Lib.hid hvb; clear hvb
  have HVA := Lib.hid hva; clear hva
  have hws : (Lit.int .i64 s).wf = true := by have := HV.out; simp only [spotOK, decide_eq_true_eq] at this; exact i64wf (by omega) (by omega)
  have hwk : (Lit.int .i64 k).wf = true := by have := HV.out; simp only [spotOK, decide_eq_true_eq] at this; exact i64wf (by omega) (by omega)
  have kl : decide (a < 1000000000000) = false := decide_eq_false (by omega)
  clear hlt
  have HE := Lib.hid hE; clear hE
  go_enter Tryd.func6, Tryd.ntmps6
  go_wp2_with fail
  obtain ⟨W0, hW0⟩ : ∃ W0, W0 = w.alloc (Obj.cells #[.int .i64 s, .int .i64 k] 55) := ⟨_, rfl⟩
  have hb0 : Below w.heap.size w W0 := by rw [hW0]; (repeat (first | exact Below.refl _ _ | assumption | refine Below.drew ?_ | refine below_many ?_ _ | refine Below.alloc ?_ (by first | (simp; done) | (simp; omega) | omega) _ | refine Below.setCell ?_ (by first | (simp; done) | (simp; omega) | omega) _))
  have Q0 : W0.cell? ⟨w.heap.size, 0, none⟩ = some (.int .i64 s) := by rw [hW0]; go_simp
  have Q1 : W0.cell? ⟨w.heap.size, 1, none⟩ = some (.int .i64 k) := by rw [hW0]; go_simp
  have hlt0 : w.heap.size < W0.heap.size := by rw [hW0]; simp
  have hle : w.heap.size ≤ W0.heap.size := Nat.le_of_lt hlt0
  rw [← hW0]
  have HE0 := Lib.hid (HE.out.below hb0)
  clear hW0
  refine (first14_calls HE0.out).mono ?_
  rintro e v1 ⟨rfl, hv1⟩
  have c0 := (hv1.cell (p := ⟨w.heap.size, 0, none⟩) hlt0).trans Q0
  have c1 := (hv1.cell (p := ⟨w.heap.size, 1, none⟩) hlt0).trans Q1
  have hsv := hv1.size
  have hlv : w.heap.size < v1.heap.size := Nat.lt_of_lt_of_le hlt0 hsv
  go_wp2_with fail
  obtain ⟨w0, hw0⟩ : ∃ w0, w0 = v1.alloc (Obj.cells #[.map none] 53) := ⟨_, rfl⟩
  have HH0 : Hid (HoldAt W0.heap.size w0 v1.heap.size []) := by rw [hw0]; exact hold_new _ _
  have hB0 : Below W0.heap.size W0 w0 := by rw [hw0]; (repeat (first | exact Below.refl _ _ | assumption | refine Below.drew ?_ | refine below_many ?_ _ | refine Below.alloc ?_ (by first | (simp; done) | (simp; omega) | omega) _ | refine Below.setCell ?_ (by first | (simp; done) | (simp; omega) | omega) _))
  rw [← hw0]
  have hs0 := hB0.size
  have htb : W0.heap.size ≤ v1.heap.size := hsv
  generalize v1.heap.size = tb at HH0 htb ⊢
  clear hw0 hv1 hsv
  try clear c0 c1
  have c0 := (hB0.cell (p := ⟨w.heap.size, 0, none⟩) hlt0).trans Q0
  have c1 := (hB0.cell (p := ⟨w.heap.size, 1, none⟩) hlt0).trans Q1
  try go_wp2_with fail
  refine (hold_put (HE0.out.below (hB0.mono hle)) (by decide) HH0.out hs0 htb s k a 0 HV.out rfl (by decide) (by decide) (by omega)).mono ?_
  rintro e w1 ⟨rfl, hH, hb⟩
  rw [put_one] at hH
  have hB1 := hB0.trans hb
  have HH1 := Lib.hid hH
  have hs1 := hB1.size
  clear hH hb c0 c1 HH0 hs0 hB0
  have c0 := (hB1.cell (p := ⟨w.heap.size, 0, none⟩) hlt0).trans Q0
  have c1 := (hB1.cell (p := ⟨w.heap.size, 1, none⟩) hlt0).trans Q1
  go_wp2_with fail
  refine (hold_put_bad (HE0.out.below (hB1.mono hle)) (by decide) HH1.out hs1 s k b HVB.out).mono ?_
  rintro e w2 ⟨rfl, hH, hb⟩
  rw [show ev p 2 = Value.iface 230 (.pointer (some (p 2))) from rfl]
  have hB2 := hB1.trans hb
  have HH2 := Lib.hid hH
  have hs2 := hB2.size
  clear hH hb c0 c1 HH1 hs1 hB1
  have c0 := (hB2.cell (p := ⟨w.heap.size, 0, none⟩) hlt0).trans Q0
  have c1 := (hB2.cell (p := ⟨w.heap.size, 1, none⟩) hlt0).trans Q1
  go_wp2_with fail
  refine (hold_take_bad (HE0.out.below (hB2.mono hle)) (by decide) HH2.out hs2 s k (a + 1) HVA.out).mono ?_
  rintro e w3 ⟨rfl, hH, hb⟩
  rw [show ev p 2 = Value.iface 230 (.pointer (some (p 2))) from rfl]
  have hB3 := hB2.trans hb
  have HH3 := Lib.hid hH
  have hs3 := hB3.size
  clear hH hb c0 c1 HH2 hs2 hB2
  have c0 := (hB3.cell (p := ⟨w.heap.size, 0, none⟩) hlt0).trans Q0
  have c1 := (hB3.cell (p := ⟨w.heap.size, 1, none⟩) hlt0).trans Q1
  go_wp2_with fail
  refine (hold_get HH3.out s k hws hwk).mono ?_
  rintro e w4 ⟨rfl, hb⟩
  rw [get_one]
  have HH4 := Lib.hid (HH3.out.below hb)
  have hB4 := hB3.trans (hb.mono hB3.size)
  have hs4 := hB4.size
  clear hb c0 c1 HH3 hs3 hB3
  have c0 := (hB4.cell (p := ⟨w.heap.size, 0, none⟩) hlt0).trans Q0
  have c1 := (hB4.cell (p := ⟨w.heap.size, 1, none⟩) hlt0).trans Q1
  go_wp2_with fail
  refine (hold_all1 HH4.out (by simp)).mono ?_
  rintro e w5 ⟨ad5, cp5, rfl, hb⟩
  try simp only [List.length_cons, List.length_nil]
  have HH5 := Lib.hid (HH4.out.below hb)
  have hB5 := hB4.trans (hb.mono hB4.size)
  have hs5 := hB5.size
  clear hb c0 c1 HH4 hs4 hB4
  have c0 := (hB5.cell (p := ⟨w.heap.size, 0, none⟩) hlt0).trans Q0
  have c1 := (hB5.cell (p := ⟨w.heap.size, 1, none⟩) hlt0).trans Q1
  go_wp2_with fail
  refine (hold_take_all (HE0.out.below (hB5.mono hle)) (by decide) HH5.out hs5 htb s k a HV.out (get_one _ _ _)).mono ?_
  rintro e w6 ⟨rfl, hH, hb⟩
  rw [del_one] at hH
  have hB6 := hB5.trans hb
  have HH6 := Lib.hid hH
  have hs6 := hB6.size
  clear hH hb c0 c1 HH5 hs5 hB5
  have c0 := (hB6.cell (p := ⟨w.heap.size, 0, none⟩) hlt0).trans Q0
  have c1 := (hB6.cell (p := ⟨w.heap.size, 1, none⟩) hlt0).trans Q1
  go_wp2_with fail
  refine (hold_all1 HH6.out (by decide)).mono ?_
  rintro e w7 ⟨ad7, cp7, rfl, hb⟩
  try simp only [List.length_cons, List.length_nil]
  have HH7 := Lib.hid (HH6.out.below hb)
  have hB7 := hB6.trans (hb.mono hB6.size)
  have hs7 := hB7.size
  clear hb c0 c1 HH6 hs6 hB6
  have c0 := (hB7.cell (p := ⟨w.heap.size, 0, none⟩) hlt0).trans Q0
  have c1 := (hB7.cell (p := ⟨w.heap.size, 1, none⟩) hlt0).trans Q1
  go_wp2_with fail
  refine (hold_of0 HH7.out s).mono ?_
  rintro e w8 ⟨ad8, cp8, rfl, hb⟩
  have HH8 := Lib.hid (HH7.out.below hb)
  have hB8 := hB7.trans (hb.mono hB7.size)
  have hs8 := hB8.size
  clear hb c0 c1 HH7 hs7 hB7
  have c0 := (hB8.cell (p := ⟨w.heap.size, 0, none⟩) hlt0).trans Q0
  have c1 := (hB8.cell (p := ⟨w.heap.size, 1, none⟩) hlt0).trans Q1
  go_wp2_with fail
  go_ret
  exact ⟨rfl, hb0.trans (hB8.mono hle)⟩

set_option maxHeartbeats 4000000 in
set_option maxRecDepth 100000 in
theorem back_over_short {p : Nat → Addr} {w : World} (hE : Errs (List.range 21) w.heap.size p w) (s k a b : Int) (hv : spotOK s k a = true) (ha : 1 ≤ a ∧ a ≤ 1000000000000) (l0 : -9223372036854775808 ≤ b) (u0 : b ≤ 9223372036854775807) (hvb : spotOK s k b = true) (hob : 1000000000000 < a + b) (hva : spotOK s k (a + 1) = true) (hlt : a < 1000000000000) :
    Calls Tryd.prog 6 #[pairV (s, k), .int .i64 a, .int .i64 b] w fun e w' => e = .returned (.bool true) ∧ Below w.heap.size w w' := by
  have HV := Lib.hid hv; clear hv
  have HVB := Lib.hid hvb; clear hvb
  have HVA := Lib.hid hva; clear hva
  have hws : (Lit.int .i64 s).wf = true := by have := HV.out; simp only [spotOK, decide_eq_true_eq] at this; exact i64wf (by omega) (by omega)
  have hwk : (Lit.int .i64 k).wf = true := by have := HV.out; simp only [spotOK, decide_eq_true_eq] at this; exact i64wf (by omega) (by omega)
  have kl : decide (a < 1000000000000) = true := decide_eq_true hlt
  have HE := Lib.hid hE; clear hE
  go_enter Tryd.func6, Tryd.ntmps6
  go_wp2_with fail
  obtain ⟨W0, hW0⟩ : ∃ W0, W0 = w.alloc (Obj.cells #[.int .i64 s, .int .i64 k] 55) := ⟨_, rfl⟩
  have hb0 : Below w.heap.size w W0 := by rw [hW0]; (repeat (first | exact Below.refl _ _ | assumption | refine Below.drew ?_ | refine below_many ?_ _ | refine Below.alloc ?_ (by first | (simp; done) | (simp; omega) | omega) _ | refine Below.setCell ?_ (by first | (simp; done) | (simp; omega) | omega) _))
  have Q0 : W0.cell? ⟨w.heap.size, 0, none⟩ = some (.int .i64 s) := by rw [hW0]; go_simp
  have Q1 : W0.cell? ⟨w.heap.size, 1, none⟩ = some (.int .i64 k) := by rw [hW0]; go_simp
  have hlt0 : w.heap.size < W0.heap.size := by rw [hW0]; simp
  have hle : w.heap.size ≤ W0.heap.size := Nat.le_of_lt hlt0
  rw [← hW0]
  have HE0 := Lib.hid (HE.out.below hb0)
  clear hW0
  refine (first14_calls HE0.out).mono ?_
  rintro e v1 ⟨rfl, hv1⟩
  have c0 := (hv1.cell (p := ⟨w.heap.size, 0, none⟩) hlt0).trans Q0
  have c1 := (hv1.cell (p := ⟨w.heap.size, 1, none⟩) hlt0).trans Q1
  have hsv := hv1.size
  have hlv : w.heap.size < v1.heap.size := Nat.lt_of_lt_of_le hlt0 hsv
  go_wp2_with fail
  obtain ⟨w0, hw0⟩ : ∃ w0, w0 = v1.alloc (Obj.cells #[.map none] 53) := ⟨_, rfl⟩
  have HH0 : Hid (HoldAt W0.heap.size w0 v1.heap.size []) := by rw [hw0]; exact hold_new _ _
  have hB0 : Below W0.heap.size W0 w0 := by rw [hw0]; (repeat (first | exact Below.refl _ _ | assumption | refine Below.drew ?_ | refine below_many ?_ _ | refine Below.alloc ?_ (by first | (simp; done) | (simp; omega) | omega) _ | refine Below.setCell ?_ (by first | (simp; done) | (simp; omega) | omega) _))
  rw [← hw0]
  have hs0 := hB0.size
  have htb : W0.heap.size ≤ v1.heap.size := hsv
  generalize v1.heap.size = tb at HH0 htb ⊢
  clear hw0 hv1 hsv
  try clear c0 c1
  have c0 := (hB0.cell (p := ⟨w.heap.size, 0, none⟩) hlt0).trans Q0
  have c1 := (hB0.cell (p := ⟨w.heap.size, 1, none⟩) hlt0).trans Q1
  try go_wp2_with fail
  refine (hold_put (HE0.out.below (hB0.mono hle)) (by decide) HH0.out hs0 htb s k a 0 HV.out rfl (by decide) (by decide) (by omega)).mono ?_
  rintro e w1 ⟨rfl, hH, hb⟩
  rw [put_one] at hH
  have hB1 := hB0.trans hb
  have HH1 := Lib.hid hH
  have hs1 := hB1.size
  clear hH hb c0 c1 HH0 hs0 hB0
  have c0 := (hB1.cell (p := ⟨w.heap.size, 0, none⟩) hlt0).trans Q0
  have c1 := (hB1.cell (p := ⟨w.heap.size, 1, none⟩) hlt0).trans Q1
  go_wp2_with fail
  refine (hold_put_over (HE0.out.below (hB1.mono hle)) (by decide) (by decide) HH1.out hs1 s k b a HVB.out (get_one _ _ _) (by omega) (by omega) (by omega)).mono ?_
  rintro e w2 ⟨rfl, hH, hb⟩
  rw [show ev p 3 = Value.iface 230 (.pointer (some (p 3))) from rfl]
  have hB2 := hB1.trans hb
  have HH2 := Lib.hid hH
  have hs2 := hB2.size
  clear hH hb c0 c1 HH1 hs1 hB1
  have c0 := (hB2.cell (p := ⟨w.heap.size, 0, none⟩) hlt0).trans Q0
  have c1 := (hB2.cell (p := ⟨w.heap.size, 1, none⟩) hlt0).trans Q1
  go_wp2_with fail
  refine (hold_take_short (HE0.out.below (hB2.mono hle)) (by decide) (by decide) HH2.out hs2 s k (a + 1) a HVA.out (get_one _ _ _) (by omega)).mono ?_
  rintro e w3 ⟨rfl, hH, hb⟩
  rw [show ev p 12 = Value.iface 230 (.pointer (some (p 12))) from rfl]
  have hB3 := hB2.trans hb
  have HH3 := Lib.hid hH
  have hs3 := hB3.size
  clear hH hb c0 c1 HH2 hs2 hB2
  have c0 := (hB3.cell (p := ⟨w.heap.size, 0, none⟩) hlt0).trans Q0
  have c1 := (hB3.cell (p := ⟨w.heap.size, 1, none⟩) hlt0).trans Q1
  go_wp2_with fail
  refine (is_ev (HE0.out.below (hB3.mono hle)) (k := 12) (by decide) 113).mono ?_
  rintro e w4 ⟨rfl, hb⟩
  rw [show ((101 + ((12 : Nat) : Int)) == 113) = true from rfl]
  have HH4 := Lib.hid (HH3.out.below hb)
  have hB4 := hB3.trans (hb.mono hB3.size)
  have hs4 := hB4.size
  clear hb c0 c1 HH3 hs3 hB3
  have c0 := (hB4.cell (p := ⟨w.heap.size, 0, none⟩) hlt0).trans Q0
  have c1 := (hB4.cell (p := ⟨w.heap.size, 1, none⟩) hlt0).trans Q1
  go_wp2_with fail
  refine (hold_get HH4.out s k hws hwk).mono ?_
  rintro e w5 ⟨rfl, hb⟩
  rw [get_one]
  have HH5 := Lib.hid (HH4.out.below hb)
  have hB5 := hB4.trans (hb.mono hB4.size)
  have hs5 := hB5.size
  clear hb c0 c1 HH4 hs4 hB4
  have c0 := (hB5.cell (p := ⟨w.heap.size, 0, none⟩) hlt0).trans Q0
  have c1 := (hB5.cell (p := ⟨w.heap.size, 1, none⟩) hlt0).trans Q1
  go_wp2_with fail
  refine (hold_all1 HH5.out (by simp)).mono ?_
  rintro e w6 ⟨ad6, cp6, rfl, hb⟩
  try simp only [List.length_cons, List.length_nil]
  have HH6 := Lib.hid (HH5.out.below hb)
  have hB6 := hB5.trans (hb.mono hB5.size)
  have hs6 := hB6.size
  clear hb c0 c1 HH5 hs5 hB5
  have c0 := (hB6.cell (p := ⟨w.heap.size, 0, none⟩) hlt0).trans Q0
  have c1 := (hB6.cell (p := ⟨w.heap.size, 1, none⟩) hlt0).trans Q1
  go_wp2_with fail
  refine (hold_take_all (HE0.out.below (hB6.mono hle)) (by decide) HH6.out hs6 htb s k a HV.out (get_one _ _ _)).mono ?_
  rintro e w7 ⟨rfl, hH, hb⟩
  rw [del_one] at hH
  have hB7 := hB6.trans hb
  have HH7 := Lib.hid hH
  have hs7 := hB7.size
  clear hH hb c0 c1 HH6 hs6 hB6
  have c0 := (hB7.cell (p := ⟨w.heap.size, 0, none⟩) hlt0).trans Q0
  have c1 := (hB7.cell (p := ⟨w.heap.size, 1, none⟩) hlt0).trans Q1
  go_wp2_with fail
  refine (hold_all1 HH7.out (by decide)).mono ?_
  rintro e w8 ⟨ad8, cp8, rfl, hb⟩
  try simp only [List.length_cons, List.length_nil]
  have HH8 := Lib.hid (HH7.out.below hb)
  have hB8 := hB7.trans (hb.mono hB7.size)
  have hs8 := hB8.size
  clear hb c0 c1 HH7 hs7 hB7
  have c0 := (hB8.cell (p := ⟨w.heap.size, 0, none⟩) hlt0).trans Q0
  have c1 := (hB8.cell (p := ⟨w.heap.size, 1, none⟩) hlt0).trans Q1
  go_wp2_with fail
  refine (hold_of0 HH8.out s).mono ?_
  rintro e w9 ⟨ad9, cp9, rfl, hb⟩
  have HH9 := Lib.hid (HH8.out.below hb)
  have hB9 := hB8.trans (hb.mono hB8.size)
  have hs9 := hB9.size
  clear hb c0 c1 HH8 hs8 hB8
  have c0 := (hB9.cell (p := ⟨w.heap.size, 0, none⟩) hlt0).trans Q0
  have c1 := (hB9.cell (p := ⟨w.heap.size, 1, none⟩) hlt0).trans Q1
  go_wp2_with fail
  go_ret
  exact ⟨rfl, hb0.trans (hB9.mono hle)⟩

set_option maxHeartbeats 4000000 in
set_option maxRecDepth 100000 in
theorem back_over_most {p : Nat → Addr} {w : World} (hE : Errs (List.range 21) w.heap.size p w) (s k a b : Int) (hv : spotOK s k a = true) (ha : 1 ≤ a ∧ a ≤ 1000000000000) (l0 : -9223372036854775808 ≤ b) (u0 : b ≤ 9223372036854775807) (hvb : spotOK s k b = true) (hob : 1000000000000 < a + b) (hva : spotOK s k (a + 1) = false) (hlt : a = 1000000000000) :
    Calls Tryd.prog 6 #[pairV (s, k), .int .i64 a, .int .i64 b] w fun e w' => e = .returned (.bool true) ∧ Below w.heap.size w w' := by
  have HV := Lib.hid hv; clear hv
  have HVB := Lib.hid hvb; clear hvb
  have HVA := Lib.hid hva; clear hva
  have hws : (Lit.int .i64 s).wf = true := by have := HV.out; simp only [spotOK, decide_eq_true_eq] at this; exact i64wf (by omega) (by omega)
  have hwk : (Lit.int .i64 k).wf = true := by have := HV.out; simp only [spotOK, decide_eq_true_eq] at this; exact i64wf (by omega) (by omega)
  have kl : decide (a < 1000000000000) = false := decide_eq_false (by omega)
  clear hlt
  have HE := Lib.hid hE; clear hE
  go_enter Tryd.func6, Tryd.ntmps6
  go_wp2_with fail
  obtain ⟨W0, hW0⟩ : ∃ W0, W0 = w.alloc (Obj.cells #[.int .i64 s, .int .i64 k] 55) := ⟨_, rfl⟩
  have hb0 : Below w.heap.size w W0 := by rw [hW0]; (repeat (first | exact Below.refl _ _ | assumption | refine Below.drew ?_ | refine below_many ?_ _ | refine Below.alloc ?_ (by first | (simp; done) | (simp; omega) | omega) _ | refine Below.setCell ?_ (by first | (simp; done) | (simp; omega) | omega) _))
  have Q0 : W0.cell? ⟨w.heap.size, 0, none⟩ = some (.int .i64 s) := by rw [hW0]; go_simp
  have Q1 : W0.cell? ⟨w.heap.size, 1, none⟩ = some (.int .i64 k) := by rw [hW0]; go_simp
  have hlt0 : w.heap.size < W0.heap.size := by rw [hW0]; simp
  have hle : w.heap.size ≤ W0.heap.size := Nat.le_of_lt hlt0
  rw [← hW0]
  have HE0 := Lib.hid (HE.out.below hb0)
  clear hW0
  refine (first14_calls HE0.out).mono ?_
  rintro e v1 ⟨rfl, hv1⟩
  have c0 := (hv1.cell (p := ⟨w.heap.size, 0, none⟩) hlt0).trans Q0
  have c1 := (hv1.cell (p := ⟨w.heap.size, 1, none⟩) hlt0).trans Q1
  have hsv := hv1.size
  have hlv : w.heap.size < v1.heap.size := Nat.lt_of_lt_of_le hlt0 hsv
  go_wp2_with fail
  obtain ⟨w0, hw0⟩ : ∃ w0, w0 = v1.alloc (Obj.cells #[.map none] 53) := ⟨_, rfl⟩
  have HH0 : Hid (HoldAt W0.heap.size w0 v1.heap.size []) := by rw [hw0]; exact hold_new _ _
  have hB0 : Below W0.heap.size W0 w0 := by rw [hw0]; (repeat (first | exact Below.refl _ _ | assumption | refine Below.drew ?_ | refine below_many ?_ _ | refine Below.alloc ?_ (by first | (simp; done) | (simp; omega) | omega) _ | refine Below.setCell ?_ (by first | (simp; done) | (simp; omega) | omega) _))
  rw [← hw0]
  have hs0 := hB0.size
  have htb : W0.heap.size ≤ v1.heap.size := hsv
  generalize v1.heap.size = tb at HH0 htb ⊢
  clear hw0 hv1 hsv
  try clear c0 c1
  have c0 := (hB0.cell (p := ⟨w.heap.size, 0, none⟩) hlt0).trans Q0
  have c1 := (hB0.cell (p := ⟨w.heap.size, 1, none⟩) hlt0).trans Q1
  try go_wp2_with fail
  refine (hold_put (HE0.out.below (hB0.mono hle)) (by decide) HH0.out hs0 htb s k a 0 HV.out rfl (by decide) (by decide) (by omega)).mono ?_
  rintro e w1 ⟨rfl, hH, hb⟩
  rw [put_one] at hH
  have hB1 := hB0.trans hb
  have HH1 := Lib.hid hH
  have hs1 := hB1.size
  clear hH hb c0 c1 HH0 hs0 hB0
  have c0 := (hB1.cell (p := ⟨w.heap.size, 0, none⟩) hlt0).trans Q0
  have c1 := (hB1.cell (p := ⟨w.heap.size, 1, none⟩) hlt0).trans Q1
  go_wp2_with fail
  refine (hold_put_over (HE0.out.below (hB1.mono hle)) (by decide) (by decide) HH1.out hs1 s k b a HVB.out (get_one _ _ _) (by omega) (by omega) (by omega)).mono ?_
  rintro e w2 ⟨rfl, hH, hb⟩
  rw [show ev p 3 = Value.iface 230 (.pointer (some (p 3))) from rfl]
  have hB2 := hB1.trans hb
  have HH2 := Lib.hid hH
  have hs2 := hB2.size
  clear hH hb c0 c1 HH1 hs1 hB1
  have c0 := (hB2.cell (p := ⟨w.heap.size, 0, none⟩) hlt0).trans Q0
  have c1 := (hB2.cell (p := ⟨w.heap.size, 1, none⟩) hlt0).trans Q1
  go_wp2_with fail
  refine (hold_take_bad (HE0.out.below (hB2.mono hle)) (by decide) HH2.out hs2 s k (a + 1) HVA.out).mono ?_
  rintro e w3 ⟨rfl, hH, hb⟩
  rw [show ev p 2 = Value.iface 230 (.pointer (some (p 2))) from rfl]
  have hB3 := hB2.trans hb
  have HH3 := Lib.hid hH
  have hs3 := hB3.size
  clear hH hb c0 c1 HH2 hs2 hB2
  have c0 := (hB3.cell (p := ⟨w.heap.size, 0, none⟩) hlt0).trans Q0
  have c1 := (hB3.cell (p := ⟨w.heap.size, 1, none⟩) hlt0).trans Q1
  go_wp2_with fail
  refine (hold_get HH3.out s k hws hwk).mono ?_
  rintro e w4 ⟨rfl, hb⟩
  rw [get_one]
  have HH4 := Lib.hid (HH3.out.below hb)
  have hB4 := hB3.trans (hb.mono hB3.size)
  have hs4 := hB4.size
  clear hb c0 c1 HH3 hs3 hB3
  have c0 := (hB4.cell (p := ⟨w.heap.size, 0, none⟩) hlt0).trans Q0
  have c1 := (hB4.cell (p := ⟨w.heap.size, 1, none⟩) hlt0).trans Q1
  go_wp2_with fail
  refine (hold_all1 HH4.out (by simp)).mono ?_
  rintro e w5 ⟨ad5, cp5, rfl, hb⟩
  try simp only [List.length_cons, List.length_nil]
  have HH5 := Lib.hid (HH4.out.below hb)
  have hB5 := hB4.trans (hb.mono hB4.size)
  have hs5 := hB5.size
  clear hb c0 c1 HH4 hs4 hB4
  have c0 := (hB5.cell (p := ⟨w.heap.size, 0, none⟩) hlt0).trans Q0
  have c1 := (hB5.cell (p := ⟨w.heap.size, 1, none⟩) hlt0).trans Q1
  go_wp2_with fail
  refine (hold_take_all (HE0.out.below (hB5.mono hle)) (by decide) HH5.out hs5 htb s k a HV.out (get_one _ _ _)).mono ?_
  rintro e w6 ⟨rfl, hH, hb⟩
  rw [del_one] at hH
  have hB6 := hB5.trans hb
  have HH6 := Lib.hid hH
  have hs6 := hB6.size
  clear hH hb c0 c1 HH5 hs5 hB5
  have c0 := (hB6.cell (p := ⟨w.heap.size, 0, none⟩) hlt0).trans Q0
  have c1 := (hB6.cell (p := ⟨w.heap.size, 1, none⟩) hlt0).trans Q1
  go_wp2_with fail
  refine (hold_all1 HH6.out (by decide)).mono ?_
  rintro e w7 ⟨ad7, cp7, rfl, hb⟩
  try simp only [List.length_cons, List.length_nil]
  have HH7 := Lib.hid (HH6.out.below hb)
  have hB7 := hB6.trans (hb.mono hB6.size)
  have hs7 := hB7.size
  clear hb c0 c1 HH6 hs6 hB6
  have c0 := (hB7.cell (p := ⟨w.heap.size, 0, none⟩) hlt0).trans Q0
  have c1 := (hB7.cell (p := ⟨w.heap.size, 1, none⟩) hlt0).trans Q1
  go_wp2_with fail
  refine (hold_of0 HH7.out s).mono ?_
  rintro e w8 ⟨ad8, cp8, rfl, hb⟩
  have HH8 := Lib.hid (HH7.out.below hb)
  have hB8 := hB7.trans (hb.mono hB7.size)
  have hs8 := hB8.size
  clear hb c0 c1 HH7 hs7 hB7
  have c0 := (hB8.cell (p := ⟨w.heap.size, 0, none⟩) hlt0).trans Q0
  have c1 := (hB8.cell (p := ⟨w.heap.size, 1, none⟩) hlt0).trans Q1
  go_wp2_with fail
  go_ret
  exact ⟨rfl, hb0.trans (hB8.mono hle)⟩

set_option maxHeartbeats 4000000 in
set_option maxRecDepth 100000 in
theorem back_ok_short {p : Nat → Addr} {w : World} (hE : Errs (List.range 21) w.heap.size p w) (s k a b : Int) (hv : spotOK s k a = true) (ha : 1 ≤ a ∧ a ≤ 1000000000000) (l0 : -9223372036854775808 ≤ b) (u0 : b ≤ 9223372036854775807) (hvb : spotOK s k b = true) (hb1 : 1 ≤ b) (hob : a + b ≤ 1000000000000) (hva : spotOK s k (a + 1) = true) (hlt : a < 1000000000000) :
    Calls Tryd.prog 6 #[pairV (s, k), .int .i64 a, .int .i64 b] w fun e w' => e = .returned (.bool true) ∧ Below w.heap.size w w' := by
  have HV := Lib.hid hv; clear hv
  have HVB := Lib.hid hvb; clear hvb
  have HVA := Lib.hid hva; clear hva
  have hws : (Lit.int .i64 s).wf = true := by have := HV.out; simp only [spotOK, decide_eq_true_eq] at this; exact i64wf (by omega) (by omega)
  have hwk : (Lit.int .i64 k).wf = true := by have := HV.out; simp only [spotOK, decide_eq_true_eq] at this; exact i64wf (by omega) (by omega)
  have kl : decide (a < 1000000000000) = true := decide_eq_true hlt
  have HE := Lib.hid hE; clear hE
  go_enter Tryd.func6, Tryd.ntmps6
  go_wp2_with fail
  obtain ⟨W0, hW0⟩ : ∃ W0, W0 = w.alloc (Obj.cells #[.int .i64 s, .int .i64 k] 55) := ⟨_, rfl⟩
  have hb0 : Below w.heap.size w W0 := by rw [hW0]; (repeat (first | exact Below.refl _ _ | assumption | refine Below.drew ?_ | refine below_many ?_ _ | refine Below.alloc ?_ (by first | (simp; done) | (simp; omega) | omega) _ | refine Below.setCell ?_ (by first | (simp; done) | (simp; omega) | omega) _))
  have Q0 : W0.cell? ⟨w.heap.size, 0, none⟩ = some (.int .i64 s) := by rw [hW0]; go_simp
  have Q1 : W0.cell? ⟨w.heap.size, 1, none⟩ = some (.int .i64 k) := by rw [hW0]; go_simp
  have hlt0 : w.heap.size < W0.heap.size := by rw [hW0]; simp
  have hle : w.heap.size ≤ W0.heap.size := Nat.le_of_lt hlt0
  rw [← hW0]
  have HE0 := Lib.hid (HE.out.below hb0)
  clear hW0
  refine (first14_calls HE0.out).mono ?_
  rintro e v1 ⟨rfl, hv1⟩
  have c0 := (hv1.cell (p := ⟨w.heap.size, 0, none⟩) hlt0).trans Q0
  have c1 := (hv1.cell (p := ⟨w.heap.size, 1, none⟩) hlt0).trans Q1
  have hsv := hv1.size
  have hlv : w.heap.size < v1.heap.size := Nat.lt_of_lt_of_le hlt0 hsv
  go_wp2_with fail
  obtain ⟨w0, hw0⟩ : ∃ w0, w0 = v1.alloc (Obj.cells #[.map none] 53) := ⟨_, rfl⟩
  have HH0 : Hid (HoldAt W0.heap.size w0 v1.heap.size []) := by rw [hw0]; exact hold_new _ _
  have hB0 : Below W0.heap.size W0 w0 := by rw [hw0]; (repeat (first | exact Below.refl _ _ | assumption | refine Below.drew ?_ | refine below_many ?_ _ | refine Below.alloc ?_ (by first | (simp; done) | (simp; omega) | omega) _ | refine Below.setCell ?_ (by first | (simp; done) | (simp; omega) | omega) _))
  rw [← hw0]
  have hs0 := hB0.size
  have htb : W0.heap.size ≤ v1.heap.size := hsv
  generalize v1.heap.size = tb at HH0 htb ⊢
  clear hw0 hv1 hsv
  try clear c0 c1
  have c0 := (hB0.cell (p := ⟨w.heap.size, 0, none⟩) hlt0).trans Q0
  have c1 := (hB0.cell (p := ⟨w.heap.size, 1, none⟩) hlt0).trans Q1
  try go_wp2_with fail
  refine (hold_put (HE0.out.below (hB0.mono hle)) (by decide) HH0.out hs0 htb s k a 0 HV.out rfl (by decide) (by decide) (by omega)).mono ?_
  rintro e w1 ⟨rfl, hH, hb⟩
  rw [put_one] at hH
  have hB1 := hB0.trans hb
  have HH1 := Lib.hid hH
  have hs1 := hB1.size
  clear hH hb c0 c1 HH0 hs0 hB0
  have c0 := (hB1.cell (p := ⟨w.heap.size, 0, none⟩) hlt0).trans Q0
  have c1 := (hB1.cell (p := ⟨w.heap.size, 1, none⟩) hlt0).trans Q1
  go_wp2_with fail
  refine (hold_put (HE0.out.below (hB1.mono hle)) (by decide) HH1.out hs1 htb s k b a HVB.out (get_one _ _ _) (by omega) (by omega) (by omega)).mono ?_
  rintro e w2 ⟨rfl, hH, hb⟩
  rw [put_same] at hH
  have hB2 := hB1.trans hb
  have HH2 := Lib.hid hH
  have hs2 := hB2.size
  clear hH hb c0 c1 HH1 hs1 hB1
  have c0 := (hB2.cell (p := ⟨w.heap.size, 0, none⟩) hlt0).trans Q0
  have c1 := (hB2.cell (p := ⟨w.heap.size, 1, none⟩) hlt0).trans Q1
  go_wp2_with fail
  refine (hold_get HH2.out s k hws hwk).mono ?_
  rintro e w3 ⟨rfl, hb⟩
  rw [get_one]
  have HH3 := Lib.hid (HH2.out.below hb)
  have hB3 := hB2.trans (hb.mono hB2.size)
  have hs3 := hB3.size
  clear hb c0 c1 HH2 hs2 hB2
  have c0 := (hB3.cell (p := ⟨w.heap.size, 0, none⟩) hlt0).trans Q0
  have c1 := (hB3.cell (p := ⟨w.heap.size, 1, none⟩) hlt0).trans Q1
  go_wp2_with fail
  refine (hold_take_part (HE0.out.below (hB3.mono hle)) (by decide) HH3.out hs3 htb s k b (a + b) HVB.out (get_one _ _ _) (by omega) (by omega)).mono ?_
  rintro e w4 ⟨rfl, hH, hb⟩
  rw [put_same, show a + b - b = a by omega] at hH
  have hB4 := hB3.trans hb
  have HH4 := Lib.hid hH
  have hs4 := hB4.size
  clear hH hb c0 c1 HH3 hs3 hB3
  have c0 := (hB4.cell (p := ⟨w.heap.size, 0, none⟩) hlt0).trans Q0
  have c1 := (hB4.cell (p := ⟨w.heap.size, 1, none⟩) hlt0).trans Q1
  go_wp2_with fail
  refine (hold_take_short (HE0.out.below (hB4.mono hle)) (by decide) (by decide) HH4.out hs4 s k (a + 1) a HVA.out (get_one _ _ _) (by omega)).mono ?_
  rintro e w5 ⟨rfl, hH, hb⟩
  rw [show ev p 12 = Value.iface 230 (.pointer (some (p 12))) from rfl]
  have hB5 := hB4.trans hb
  have HH5 := Lib.hid hH
  have hs5 := hB5.size
  clear hH hb c0 c1 HH4 hs4 hB4
  have c0 := (hB5.cell (p := ⟨w.heap.size, 0, none⟩) hlt0).trans Q0
  have c1 := (hB5.cell (p := ⟨w.heap.size, 1, none⟩) hlt0).trans Q1
  go_wp2_with fail
  refine (is_ev (HE0.out.below (hB5.mono hle)) (k := 12) (by decide) 113).mono ?_
  rintro e w6 ⟨rfl, hb⟩
  rw [show ((101 + ((12 : Nat) : Int)) == 113) = true from rfl]
  have HH6 := Lib.hid (HH5.out.below hb)
  have hB6 := hB5.trans (hb.mono hB5.size)
  have hs6 := hB6.size
  clear hb c0 c1 HH5 hs5 hB5
  have c0 := (hB6.cell (p := ⟨w.heap.size, 0, none⟩) hlt0).trans Q0
  have c1 := (hB6.cell (p := ⟨w.heap.size, 1, none⟩) hlt0).trans Q1
  go_wp2_with fail
  refine (hold_get HH6.out s k hws hwk).mono ?_
  rintro e w7 ⟨rfl, hb⟩
  rw [get_one]
  have HH7 := Lib.hid (HH6.out.below hb)
  have hB7 := hB6.trans (hb.mono hB6.size)
  have hs7 := hB7.size
  clear hb c0 c1 HH6 hs6 hB6
  have c0 := (hB7.cell (p := ⟨w.heap.size, 0, none⟩) hlt0).trans Q0
  have c1 := (hB7.cell (p := ⟨w.heap.size, 1, none⟩) hlt0).trans Q1
  go_wp2_with fail
  refine (hold_all1 HH7.out (by simp)).mono ?_
  rintro e w8 ⟨ad8, cp8, rfl, hb⟩
  try simp only [List.length_cons, List.length_nil]
  have HH8 := Lib.hid (HH7.out.below hb)
  have hB8 := hB7.trans (hb.mono hB7.size)
  have hs8 := hB8.size
  clear hb c0 c1 HH7 hs7 hB7
  have c0 := (hB8.cell (p := ⟨w.heap.size, 0, none⟩) hlt0).trans Q0
  have c1 := (hB8.cell (p := ⟨w.heap.size, 1, none⟩) hlt0).trans Q1
  go_wp2_with fail
  refine (hold_take_all (HE0.out.below (hB8.mono hle)) (by decide) HH8.out hs8 htb s k a HV.out (get_one _ _ _)).mono ?_
  rintro e w9 ⟨rfl, hH, hb⟩
  rw [del_one] at hH
  have hB9 := hB8.trans hb
  have HH9 := Lib.hid hH
  have hs9 := hB9.size
  clear hH hb c0 c1 HH8 hs8 hB8
  have c0 := (hB9.cell (p := ⟨w.heap.size, 0, none⟩) hlt0).trans Q0
  have c1 := (hB9.cell (p := ⟨w.heap.size, 1, none⟩) hlt0).trans Q1
  go_wp2_with fail
  refine (hold_all1 HH9.out (by decide)).mono ?_
  rintro e w10 ⟨ad10, cp10, rfl, hb⟩
  try simp only [List.length_cons, List.length_nil]
  have HH10 := Lib.hid (HH9.out.below hb)
  have hB10 := hB9.trans (hb.mono hB9.size)
  have hs10 := hB10.size
  clear hb c0 c1 HH9 hs9 hB9
  have c0 := (hB10.cell (p := ⟨w.heap.size, 0, none⟩) hlt0).trans Q0
  have c1 := (hB10.cell (p := ⟨w.heap.size, 1, none⟩) hlt0).trans Q1
  go_wp2_with fail
  refine (hold_of0 HH10.out s).mono ?_
  rintro e w11 ⟨ad11, cp11, rfl, hb⟩
  have HH11 := Lib.hid (HH10.out.below hb)
  have hB11 := hB10.trans (hb.mono hB10.size)
  have hs11 := hB11.size
  clear hb c0 c1 HH10 hs10 hB10
  have c0 := (hB11.cell (p := ⟨w.heap.size, 0, none⟩) hlt0).trans Q0
  have c1 := (hB11.cell (p := ⟨w.heap.size, 1, none⟩) hlt0).trans Q1
  go_wp2_with fail
  go_ret
  exact ⟨rfl, hb0.trans (hB11.mono hle)⟩

set_option maxHeartbeats 4000000 in
set_option maxRecDepth 100000 in
theorem back_ok_most {p : Nat → Addr} {w : World} (hE : Errs (List.range 21) w.heap.size p w) (s k a b : Int) (hv : spotOK s k a = true) (ha : 1 ≤ a ∧ a ≤ 1000000000000) (l0 : -9223372036854775808 ≤ b) (u0 : b ≤ 9223372036854775807) (hvb : spotOK s k b = true) (hb1 : 1 ≤ b) (hob : a + b ≤ 1000000000000) (hva : spotOK s k (a + 1) = false) (hlt : a = 1000000000000) :
    Calls Tryd.prog 6 #[pairV (s, k), .int .i64 a, .int .i64 b] w fun e w' => e = .returned (.bool true) ∧ Below w.heap.size w w' := by
  have HV := Lib.hid hv; clear hv
  have HVB := Lib.hid hvb; clear hvb
  have HVA := Lib.hid hva; clear hva
  have hws : (Lit.int .i64 s).wf = true := by have := HV.out; simp only [spotOK, decide_eq_true_eq] at this; exact i64wf (by omega) (by omega)
  have hwk : (Lit.int .i64 k).wf = true := by have := HV.out; simp only [spotOK, decide_eq_true_eq] at this; exact i64wf (by omega) (by omega)
  have kl : decide (a < 1000000000000) = false := decide_eq_false (by omega)
  clear hlt
  have HE := Lib.hid hE; clear hE
  go_enter Tryd.func6, Tryd.ntmps6
  go_wp2_with fail
  obtain ⟨W0, hW0⟩ : ∃ W0, W0 = w.alloc (Obj.cells #[.int .i64 s, .int .i64 k] 55) := ⟨_, rfl⟩
  have hb0 : Below w.heap.size w W0 := by rw [hW0]; (repeat (first | exact Below.refl _ _ | assumption | refine Below.drew ?_ | refine below_many ?_ _ | refine Below.alloc ?_ (by first | (simp; done) | (simp; omega) | omega) _ | refine Below.setCell ?_ (by first | (simp; done) | (simp; omega) | omega) _))
  have Q0 : W0.cell? ⟨w.heap.size, 0, none⟩ = some (.int .i64 s) := by rw [hW0]; go_simp
  have Q1 : W0.cell? ⟨w.heap.size, 1, none⟩ = some (.int .i64 k) := by rw [hW0]; go_simp
  have hlt0 : w.heap.size < W0.heap.size := by rw [hW0]; simp
  have hle : w.heap.size ≤ W0.heap.size := Nat.le_of_lt hlt0
  rw [← hW0]
  have HE0 := Lib.hid (HE.out.below hb0)
  clear hW0
  refine (first14_calls HE0.out).mono ?_
  rintro e v1 ⟨rfl, hv1⟩
  have c0 := (hv1.cell (p := ⟨w.heap.size, 0, none⟩) hlt0).trans Q0
  have c1 := (hv1.cell (p := ⟨w.heap.size, 1, none⟩) hlt0).trans Q1
  have hsv := hv1.size
  have hlv : w.heap.size < v1.heap.size := Nat.lt_of_lt_of_le hlt0 hsv
  go_wp2_with fail
  obtain ⟨w0, hw0⟩ : ∃ w0, w0 = v1.alloc (Obj.cells #[.map none] 53) := ⟨_, rfl⟩
  have HH0 : Hid (HoldAt W0.heap.size w0 v1.heap.size []) := by rw [hw0]; exact hold_new _ _
  have hB0 : Below W0.heap.size W0 w0 := by rw [hw0]; (repeat (first | exact Below.refl _ _ | assumption | refine Below.drew ?_ | refine below_many ?_ _ | refine Below.alloc ?_ (by first | (simp; done) | (simp; omega) | omega) _ | refine Below.setCell ?_ (by first | (simp; done) | (simp; omega) | omega) _))
  rw [← hw0]
  have hs0 := hB0.size
  have htb : W0.heap.size ≤ v1.heap.size := hsv
  generalize v1.heap.size = tb at HH0 htb ⊢
  clear hw0 hv1 hsv
  try clear c0 c1
  have c0 := (hB0.cell (p := ⟨w.heap.size, 0, none⟩) hlt0).trans Q0
  have c1 := (hB0.cell (p := ⟨w.heap.size, 1, none⟩) hlt0).trans Q1
  try go_wp2_with fail
  refine (hold_put (HE0.out.below (hB0.mono hle)) (by decide) HH0.out hs0 htb s k a 0 HV.out rfl (by decide) (by decide) (by omega)).mono ?_
  rintro e w1 ⟨rfl, hH, hb⟩
  rw [put_one] at hH
  have hB1 := hB0.trans hb
  have HH1 := Lib.hid hH
  have hs1 := hB1.size
  clear hH hb c0 c1 HH0 hs0 hB0
  have c0 := (hB1.cell (p := ⟨w.heap.size, 0, none⟩) hlt0).trans Q0
  have c1 := (hB1.cell (p := ⟨w.heap.size, 1, none⟩) hlt0).trans Q1
  go_wp2_with fail
  refine (hold_put (HE0.out.below (hB1.mono hle)) (by decide) HH1.out hs1 htb s k b a HVB.out (get_one _ _ _) (by omega) (by omega) (by omega)).mono ?_
  rintro e w2 ⟨rfl, hH, hb⟩
  rw [put_same] at hH
  have hB2 := hB1.trans hb
  have HH2 := Lib.hid hH
  have hs2 := hB2.size
  clear hH hb c0 c1 HH1 hs1 hB1
  have c0 := (hB2.cell (p := ⟨w.heap.size, 0, none⟩) hlt0).trans Q0
  have c1 := (hB2.cell (p := ⟨w.heap.size, 1, none⟩) hlt0).trans Q1
  go_wp2_with fail
  refine (hold_get HH2.out s k hws hwk).mono ?_
  rintro e w3 ⟨rfl, hb⟩
  rw [get_one]
  have HH3 := Lib.hid (HH2.out.below hb)
  have hB3 := hB2.trans (hb.mono hB2.size)
  have hs3 := hB3.size
  clear hb c0 c1 HH2 hs2 hB2
  have c0 := (hB3.cell (p := ⟨w.heap.size, 0, none⟩) hlt0).trans Q0
  have c1 := (hB3.cell (p := ⟨w.heap.size, 1, none⟩) hlt0).trans Q1
  go_wp2_with fail
  refine (hold_take_part (HE0.out.below (hB3.mono hle)) (by decide) HH3.out hs3 htb s k b (a + b) HVB.out (get_one _ _ _) (by omega) (by omega)).mono ?_
  rintro e w4 ⟨rfl, hH, hb⟩
  rw [put_same, show a + b - b = a by omega] at hH
  have hB4 := hB3.trans hb
  have HH4 := Lib.hid hH
  have hs4 := hB4.size
  clear hH hb c0 c1 HH3 hs3 hB3
  have c0 := (hB4.cell (p := ⟨w.heap.size, 0, none⟩) hlt0).trans Q0
  have c1 := (hB4.cell (p := ⟨w.heap.size, 1, none⟩) hlt0).trans Q1
  go_wp2_with fail
  refine (hold_take_bad (HE0.out.below (hB4.mono hle)) (by decide) HH4.out hs4 s k (a + 1) HVA.out).mono ?_
  rintro e w5 ⟨rfl, hH, hb⟩
  rw [show ev p 2 = Value.iface 230 (.pointer (some (p 2))) from rfl]
  have hB5 := hB4.trans hb
  have HH5 := Lib.hid hH
  have hs5 := hB5.size
  clear hH hb c0 c1 HH4 hs4 hB4
  have c0 := (hB5.cell (p := ⟨w.heap.size, 0, none⟩) hlt0).trans Q0
  have c1 := (hB5.cell (p := ⟨w.heap.size, 1, none⟩) hlt0).trans Q1
  go_wp2_with fail
  refine (hold_get HH5.out s k hws hwk).mono ?_
  rintro e w6 ⟨rfl, hb⟩
  rw [get_one]
  have HH6 := Lib.hid (HH5.out.below hb)
  have hB6 := hB5.trans (hb.mono hB5.size)
  have hs6 := hB6.size
  clear hb c0 c1 HH5 hs5 hB5
  have c0 := (hB6.cell (p := ⟨w.heap.size, 0, none⟩) hlt0).trans Q0
  have c1 := (hB6.cell (p := ⟨w.heap.size, 1, none⟩) hlt0).trans Q1
  go_wp2_with fail
  refine (hold_all1 HH6.out (by simp)).mono ?_
  rintro e w7 ⟨ad7, cp7, rfl, hb⟩
  try simp only [List.length_cons, List.length_nil]
  have HH7 := Lib.hid (HH6.out.below hb)
  have hB7 := hB6.trans (hb.mono hB6.size)
  have hs7 := hB7.size
  clear hb c0 c1 HH6 hs6 hB6
  have c0 := (hB7.cell (p := ⟨w.heap.size, 0, none⟩) hlt0).trans Q0
  have c1 := (hB7.cell (p := ⟨w.heap.size, 1, none⟩) hlt0).trans Q1
  go_wp2_with fail
  refine (hold_take_all (HE0.out.below (hB7.mono hle)) (by decide) HH7.out hs7 htb s k a HV.out (get_one _ _ _)).mono ?_
  rintro e w8 ⟨rfl, hH, hb⟩
  rw [del_one] at hH
  have hB8 := hB7.trans hb
  have HH8 := Lib.hid hH
  have hs8 := hB8.size
  clear hH hb c0 c1 HH7 hs7 hB7
  have c0 := (hB8.cell (p := ⟨w.heap.size, 0, none⟩) hlt0).trans Q0
  have c1 := (hB8.cell (p := ⟨w.heap.size, 1, none⟩) hlt0).trans Q1
  go_wp2_with fail
  refine (hold_all1 HH8.out (by decide)).mono ?_
  rintro e w9 ⟨ad9, cp9, rfl, hb⟩
  try simp only [List.length_cons, List.length_nil]
  have HH9 := Lib.hid (HH8.out.below hb)
  have hB9 := hB8.trans (hb.mono hB8.size)
  have hs9 := hB9.size
  clear hb c0 c1 HH8 hs8 hB8
  have c0 := (hB9.cell (p := ⟨w.heap.size, 0, none⟩) hlt0).trans Q0
  have c1 := (hB9.cell (p := ⟨w.heap.size, 1, none⟩) hlt0).trans Q1
  go_wp2_with fail
  refine (hold_of0 HH9.out s).mono ?_
  rintro e w10 ⟨ad10, cp10, rfl, hb⟩
  have HH10 := Lib.hid (HH9.out.below hb)
  have hB10 := hB9.trans (hb.mono hB9.size)
  have hs10 := hB10.size
  clear hb c0 c1 HH9 hs9 hB9
  have c0 := (hB10.cell (p := ⟨w.heap.size, 0, none⟩) hlt0).trans Q0
  have c1 := (hB10.cell (p := ⟨w.heap.size, 1, none⟩) hlt0).trans Q1
  go_wp2_with fail
  go_ret
  exact ⟨rfl, hb0.trans (hB10.mono hle)⟩

theorem walk_HoldBack {p : Nat → Addr} {w : World} (hE : Errs (List.range 21) w.heap.size p w) (s k a b : Int) (l0 : -9223372036854775808 ≤ s) (u0 : s ≤ 9223372036854775807) (l1 : -9223372036854775808 ≤ k) (u1 : k ≤ 9223372036854775807) (l2 : -9223372036854775808 ≤ a) (u2 : a ≤ 9223372036854775807) (l3 : -9223372036854775808 ≤ b) (u3 : b ≤ 9223372036854775807) :
    Calls Tryd.prog 6 #[pairV (s, k), .int .i64 a, .int .i64 b] w fun e w' => e = .returned (.bool true) ∧ Below w.heap.size w w' := by
  cases hv : spotOK s k a with
  | false => exact back_bad hE s k a b hv
  | true =>
    have hv' := hv
    simp only [spotOK, decide_eq_true_eq] at hv'
    have ha : 1 ≤ a ∧ a ≤ 1000000000000 := by omega
    have hva : a < 1000000000000 → spotOK s k (a + 1) = true := fun h => by simp only [spotOK, decide_eq_true_eq]; omega
    have hva' : a = 1000000000000 → spotOK s k (a + 1) = false := fun h => by simp only [spotOK, decide_eq_false_iff_not]; omega
    cases hvb : spotOK s k b with
    | false =>
      by_cases hlt : a < 1000000000000
      · exact back_bad_short hE s k a b hv ha l3 u3 hvb (hva hlt) hlt
      · exact back_bad_most hE s k a b hv ha l3 u3 hvb (hva' (by omega)) (by omega)
    | true =>
      have hvb' := hvb
      simp only [spotOK, decide_eq_true_eq] at hvb'
      by_cases hob : a + b ≤ 1000000000000
      · by_cases hlt : a < 1000000000000
        · exact back_ok_short hE s k a b hv ha l3 u3 hvb (by omega) hob (hva hlt) hlt
        · exact back_ok_most hE s k a b hv ha l3 u3 hvb (by omega) hob (hva' (by omega)) (by omega)
      · by_cases hlt : a < 1000000000000
        · exact back_over_short hE s k a b hv ha l3 u3 hvb (by omega) (hva hlt) hlt
        · exact back_over_most hE s k a b hv ha l3 u3 hvb (by omega) (hva' (by omega)) (by omega)
end Go.Proofs.YtfecgcdceegdlaaDoor
