/- caps.add: what it returns and what it leaves. -/
import Derived.Test.YtkdmedmlbglgmaaDoorCaps
namespace Go.Proofs.YtkdmedmlbglgmaaDoor
open Go.Maps
open Go Go.RowKit
set_option linter.unusedSimpArgs false
set_option linter.unusedVariables false

theorem SlI.two (w : World) (x y : Int) (E : TypeId) : SlI (w.alloc (.cells #[.int .i64 x, .int .i64 y] E)) (.slice (some ⟨w.heap.size, 0, none⟩) 2 2) [x, y] := by
  refine ⟨_, _, rfl, by simp, by unfold maxLen; omega, .inr ⟨_, _, rfl, by simp, fun i hi => ?_⟩⟩
  match i, hi with
  | 0, _ => go_simp
  | 1, _ => go_simp

set_option maxRecDepth 100000 in
theorem grpAdd_calls {ks : List Nat} {B : Nat} {p : Nat → Addr} {w : World} (hE : Errs ks B p w) (h3 : 3 ∈ ks) {mb : Nat} {m : List (G × Int)} (hm : GrpMap w (some mb) m) (g : G) (hw : gwf g) (v : Int)
    (hs : isAmt ((mget m g).getD 0) = true) (hv : isAmt v = true) :
    Calls Tryd.prog 34 #[.map (some mb), tripV g, .int .i64 v] w fun e w' =>
      ((mget m g).getD 0 + v ≤ 1000000000000000 ∧ e = .returned .nilIface ∧ GrpMap w' (some mb) (addM m g v) ∧ Keep (fun x => x = mb) w w') ∨ (1000000000000000 < (mget m g).getD 0 + v ∧ e = .returned (.iface 215 (.pointer (some (p 3)))) ∧ Below w.heap.size w w') := by
  obtain ⟨x, y, z⟩ := g
  have hmlt := hm.lt mb rfl
  have hl := grp_look (hm.alloc (Obj.cells #[.int .i64 x, .int .i64 y, .int .i64 z] 89)) x y z hw
  have HM := Lib.hid hm
  have HW := Lib.hid hw
  have HE := Lib.hid hE
  have HA : Hid ([(mget m (x, y, z)).getD 0, v].all isAmt = true) := by unfold Hid; simp [hs, hv]
  have HG : Hid (addM m (x, y, z) v = mput m (x, y, z) ((mget m (x, y, z)).getD 0 + v)) := rfl
  clear hm hw hE hs hv
  generalize (mget m (x, y, z)).getD 0 = S at hl HA HG ⊢
  go_enter Tryd.func34, Tryd.ntmps34
  go_wp2_with fail
  have hb0 : Below w.heap.size w ((w.alloc (Obj.cells #[.int .i64 x, .int .i64 y, .int .i64 z] 89)).alloc (Obj.cells #[.int .i64 S, .int .i64 v] 2)) := by (repeat (first | exact Below.refl _ _ | assumption | refine Below.drew ?_ | refine below_many ?_ _ | refine Below.alloc ?_ (by first | (simp; done) | (simp; omega) | omega) _ | refine Below.setCell ?_ (by first | (simp; done) | (simp; omega) | omega) _))
  have HS := Lib.hid (SlI.two (w.alloc (Obj.cells #[.int .i64 x, .int .i64 y, .int .i64 z] 89)) S v 2)
  have hsz : (w.alloc (Obj.cells #[.int .i64 x, .int .i64 y, .int .i64 z] 89)).heap.size = w.heap.size + 1 := by simp
  rw [hsz] at HS
  refine (total_calls (HE.out.below (hb0.mono HE.out.size)) h3 HS.out HA.out (by simp)).mono ?_
  rintro e w1 ⟨rfl, hb1⟩
  have hB1 : Below w.heap.size w w1 := hb0.trans (hb1.mono (by simp; omega))
  have hK0 := (hb1.cell (p := ⟨w.heap.size, 0, none⟩) (by simp; omega)).trans (show _ = some (Value.int .i64 x) by go_simp)
  have hK1 := (hb1.cell (p := ⟨w.heap.size, 1, none⟩) (by simp; omega)).trans (show _ = some (Value.int .i64 y) by go_simp)
  have hK2 := (hb1.cell (p := ⟨w.heap.size, 2, none⟩) (by simp; omega)).trans (show _ = some (Value.int .i64 z) by go_simp)
  clear hb0 hb1 HS hsz hl
  by_cases hS : S + v ≤ 1000000000000000
  · have HR : Hid (resV p (totR [S, v]) = .tuple #[.int .i64 (S + v), .nilIface]) := by
      unfold Hid totR; rw [show [S, v].sum = S + v by simp, if_pos hS]; rfl
    rw [HR.out]
    obtain ⟨w2, hst, hm2, hk2, _⟩ := grp_store (HM.out.below hB1) x y z (S + v) HW.out
    have HM2 := Lib.hid hm2
    have HK := Lib.hid ((Keep.of_below (S := fun x => x = mb) hB1).trans hk2)
    clear hm2 hk2 HR
    have HSv := Lib.hid hS
    clear hS
    go_wp2_with fail
    go_ret
    exact .inl ⟨HSv.out, rfl, by rw [HG.out]; exact HM2.out, HK.out⟩
  · have HR : Hid (resV p (totR [S, v]) = .tuple #[.int .i64 0, .iface 215 (.pointer (some (p 3)))]) := by
      unfold Hid totR; rw [show [S, v].sum = S + v by simp, if_neg hS]; rfl
    rw [HR.out]
    have HSv := Lib.hid hS
    clear hS HR
    go_wp2_with fail
    go_ret
    exact .inr ⟨by have := HSv.out; omega, rfl, hB1⟩

end Go.Proofs.YtkdmedmlbglgmaaDoor
