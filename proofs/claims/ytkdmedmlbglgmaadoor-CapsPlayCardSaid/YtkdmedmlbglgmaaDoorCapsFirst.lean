/- The chapter's examples of caps (pledgelaw16.first); lines laid by hand. -/
import Derived.Test.YtkdmedmlbglgmaaDoorCapsSet
import Derived.Test.YtkdmedmlbglgmaaDoorNum
namespace Go.Proofs.YtkdmedmlbglgmaaDoor
open Go.Maps
open Go Go.RowKit
set_option linter.unusedSimpArgs false
set_option linter.unusedVariables false

/-- The cells of lines, one behind the other. -/
def lineCells : List (G × Int) → List Value
  | [] => []
  | x :: L => .int .i64 x.1.1 :: .int .i64 x.1.2.1 :: .int .i64 x.1.2.2 :: .int .i64 x.2 :: lineCells L
theorem lineCells_get : ∀ (L : List (G × Int)) (i : Nat) (x : G × Int), L[i]? = some x →
    (lineCells L)[i * 4]? = some (.int .i64 x.1.1) ∧ (lineCells L)[i * 4 + 1]? = some (.int .i64 x.1.2.1) ∧ (lineCells L)[i * 4 + 2]? = some (.int .i64 x.1.2.2) ∧ (lineCells L)[i * 4 + 3]? = some (.int .i64 x.2)
  | [], i, x, h => by simp at h
  | y :: L, 0, x, h => by
    simp only [List.getElem?_cons_zero, Option.some.injEq] at h
    subst h
    simp [lineCells]
  | y :: L, i + 1, x, h => by
    simp only [List.getElem?_cons_succ] at h
    have ih := lineCells_get L i x h
    simp only [lineCells]
    refine ⟨?_, ?_, ?_, ?_⟩
    · rw [show (i + 1) * 4 = i * 4 + 1 + 1 + 1 + 1 by omega]; simpa using ih.1
    · rw [show (i + 1) * 4 + 1 = (i * 4 + 1) + 1 + 1 + 1 + 1 by omega]; simpa using ih.2.1
    · rw [show (i + 1) * 4 + 2 = (i * 4 + 2) + 1 + 1 + 1 + 1 by omega]; simpa using ih.2.2.1
    · rw [show (i + 1) * 4 + 3 = (i * 4 + 3) + 1 + 1 + 1 + 1 by omega]; simpa using ih.2.2.2
theorem LinesAt.row (w : World) (L : List (G × Int)) (E : TypeId) (cs : Array Value) (n : Nat) (hcs : cs.toList = lineCells L) (hn : n = L.length) (hm : n ≤ 1000000) :
    LinesAt (w.alloc (.cells cs E)) (.slice (some ⟨w.heap.size, 0, none⟩) n n) L := by
  subst hn
  refine ⟨_, _, rfl, Nat.le_refl _, by unfold maxLen; omega, .inr ⟨_, _, rfl, by simp, fun i x hx => ?_⟩⟩
  obtain ⟨h0, h1, h2, h3⟩ := lineCells_get L i x hx
  have hc : ∀ j v, (lineCells L)[j]? = some v → (w.alloc (.cells cs E)).cell? ⟨w.heap.size, j, none⟩ = some v := by
    intro j v hj
    rw [← hcs] at hj
    simp only [World.cell?, World.alloc, Array.getElem?_push, if_true]
    simpa using hj
  rw [show (0 : Nat) + i * 4 = i * 4 by omega]
  exact ⟨hc _ _ h0, hc _ _ h1, hc _ _ h2, hc _ _ h3⟩

set_option maxRecDepth 100000 in
theorem first16_calls {ks : List Nat} {B : Nat} {p : Nat → Addr} {w : World} (hE : Errs ks B p w) (h2 : 2 ∈ ks) (h3 : 3 ∈ ks) :
    Calls Tryd.prog 8 #[] w fun e w' => e = .returned (.bool true) ∧ Below w.heap.size w w' := by
  have HE := Lib.hid hE
  clear hE
  go_enter Tryd.func8, Tryd.ntmps8
  have hT0 := caps_new w.heap.size w
  go_wp2_with fail
  refine (caps_set (HE.out.below (show Below B w _ from (Below.refl _ _).alloc HE.out.size _)) h2 hT0 (by simp) 3 4 7).mono ?_
  rintro e w1 ⟨rfl, hT1, hk1⟩
  rw [show limE p 3 4 7 = .nilIface from rfl]
  have hB1 : Below w.heap.size w w1 := Below.trans (show Below w.heap.size w _ by (repeat (first | exact Below.refl _ _ | assumption | refine Below.drew ?_ | refine below_many ?_ _ | refine Below.alloc ?_ (by first | (simp; done) | (simp; omega) | omega) _ | refine Below.setCell ?_ (by first | (simp; done) | (simp; omega) | omega) _))) (hk1.below (by simp) (fun k hk e => by omega))
  have hs1 := hB1.size
  have HT1 := Lib.hid hT1
  clear hT0 hT1 hk1
  go_wp2_with fail
  have hsz : w1.heap.size + 1 = (w1.alloc (Obj.cells #[.int .i64 2, .int .i64 1, .int .i64 4, .int .i64 5] 32)).heap.size := by simp
  rw [hsz]
  refine (sum_calls (HE.out.below ((show Below w.heap.size w _ by (repeat (first | exact Below.refl _ _ | assumption | refine Below.drew ?_ | refine below_many ?_ _ | refine Below.alloc ?_ (by first | (simp; done) | (simp; omega) | omega) _ | refine Below.setCell ?_ (by first | (simp; done) | (simp; omega) | omega) _))).mono HE.out.size)) h3 (HT1.out.at.below (by (repeat (first | exact Below.refl _ _ | assumption | refine Below.drew ?_ | refine below_many ?_ _ | refine Below.alloc ?_ (by first | (simp; done) | (simp; omega) | omega) _ | refine Below.setCell ?_ (by first | (simp; done) | (simp; omega) | omega) _)))) (LinesAt.row _ [((2, 1, 4), 5), ((2, 1, 4), 5)] _ _ 2 (by rfl) (by rfl) (by decide)) (by decide)).mono ?_
  rintro e w2 ⟨rfl, hb2⟩
  rw [show resV p (capR (lset [] 3 4 7) [((2, 1, 4), 5), ((2, 1, 4), 5)]) = .tuple #[.int .i64 7, .nilIface] from rfl]
  have HB2 : Hid (Below w.heap.size w w2) := Below.trans (show Below w.heap.size w _ by (repeat (first | exact Below.refl _ _ | assumption | refine Below.drew ?_ | refine below_many ?_ _ | refine Below.alloc ?_ (by first | (simp; done) | (simp; omega) | omega) _ | refine Below.setCell ?_ (by first | (simp; done) | (simp; omega) | omega) _))) (hb2.mono (by simp; have := hB1.size; omega))
  clear hb2 hsz
  go_wp2_with fail
  go_ret
  exact ⟨rfl, HB2.out⟩

end Go.Proofs.YtkdmedmlbglgmaaDoor
