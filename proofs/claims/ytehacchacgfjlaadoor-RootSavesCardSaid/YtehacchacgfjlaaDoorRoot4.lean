/- Package root: Read. -/
import Derived.Test.YtehacchacgfjlaaDoorRoot3
import Derived.RegionTactic
import Derived.Deep.RegionLaw
namespace Go.Proofs.YtehacchacgfjlaaDoor
open Go.Maps
open Go Go.RowKit
set_option linter.unusedSimpArgs false
set_option linter.unusedVariables false

theorem OwnI.rdK {E : TypeId} {base : Nat} {w : World} {v : Value} {xs : List Int} (h : OwnI E base w v xs) : RdK .i64 w v xs := by
  by_cases hx : xs = []
  · obtain ⟨a, c, rfl⟩ := h.len
    rcases h.2 with ⟨h1, h2⟩ | ⟨g, cap, cur, h1, _, _, _, h4, _⟩
    · simp only [Value.slice.injEq] at h1
      exact .inl ⟨hx, none, 0, by rw [h1.1, hx, h1.2.2]; rfl, by unfold maxLen; omega⟩
    · simp only [Value.slice.injEq] at h1
      exact .inl ⟨hx, a, c, by rw [hx]; rfl, by omega⟩
  · obtain ⟨g, cap, rfl, _, hg, h1, h2, h3, _⟩ := h.cells hx
    exact .inr ⟨g, 0, cap, rfl, h1, h2, hg, fun i hi => by rw [Nat.zero_add]; exact h3 i hi⟩
theorem infoIntR : (Tryd.prog.info? 3).map (fun i => (i.zero, i.size, i.bytes)) = some (some (.int .i64 0), 1, 8) := by kernel_rfl
theorem listOf_succ (bs : List Int) (k : Nat) (hk : k < (bs.getD 6 0).toNat) : (listOf bs).take (k + 1) = (listOf bs).take k ++ [bs.getD (7 + 2 * k) 0 + bs.getD (8 + 2 * k) 0 * 256] := by
  have hl : k < (listOf bs).length := by simp only [listOf, List.length_map, List.length_range]; exact hk
  rw [List.take_succ_eq_append_getElem hl]
  simp [listOf]
theorem getD_byte {bs : List Int} (hb : isBytes bs) (k : Nat) : 0 ≤ bs.getD k 0 ∧ bs.getD k 0 ≤ 255 := by
  by_cases h : k < bs.length
  · simp only [List.getD, List.getElem?_eq_getElem h, Option.getD_some]; exact hb _ (List.getElem_mem h)
  · simp [List.getD, List.getElem?_eq_none (by omega : bs.length ≤ k)]
def noRoot : Value := .tuple #[rootV 0 (.slice none 0 0), .bool false]
/-- Where it is not as long, or says too many numbers. -/
theorem read_short {w : World} {v : Value} {bs : List Int} (hv : RdB w v bs) (hl : bs.length ≠ 128) :
    Calls Tryd.prog 33 #[v] w fun r w' => r = .returned noRoot ∧ Below w.heap.size w w' := by
  obtain ⟨a, c, rfl, hlc, hcm⟩ := hv.len
  unfold maxLen at hcm
  have hq : ((bs.length : Int) != 128) = true := by simp; omega
  clear hv hl
  go_enter Tryd.func33, Tryd.ntmps33
  go_wp2_with fail
  exact bodyPost_ret (v := noRoot) (by simp [noRoot, results, Tryd.results33, go_sem]) rfl ⟨rfl, by (repeat (first | exact Below.refl _ _ | assumption | refine Below.drew ?_ | refine below_many ?_ _ | refine Below.alloc ?_ (by first | (simp; done) | (simp; omega) | omega) _ | refine Below.setCell ?_ (by first | (simp; done) | (simp; omega) | omega) _))⟩
theorem read_many {w : World} {v : Value} {bs : List Int} (hv : RdB w v bs) (hl : bs.length = 128) (h6 : 40 < bs.getD 6 0) :
    Calls Tryd.prog 33 #[v] w fun r w' => r = .returned noRoot ∧ Below w.heap.size w w' := by
  rcases hv with ⟨_, h0⟩ | ⟨g, off, c, rfl, h1, h2, hg, hcell⟩
  · rw [h0] at hl; cases hl
  have d6 := hcell 6 (by omega)
  rw [hl] at h1 ⊢
  unfold maxLen at h2
  generalize bs.getD 6 0 = x at d6 h6
  clear hcell hl
  have hd : decide (40 < x) = true := decide_eq_true h6
  go_enter Tryd.func33, Tryd.ntmps33
  go_wp2_with fail
  exact bodyPost_ret (v := noRoot) (by simp [noRoot, results, Tryd.results33, go_sem]) rfl ⟨rfl, by (repeat (first | exact Below.refl _ _ | assumption | refine Below.drew ?_ | refine below_many ?_ _ | refine Below.alloc ?_ (by first | (simp; done) | (simp; omega) | omega) _ | refine Below.setCell ?_ (by first | (simp; done) | (simp; omega) | omega) _))⟩
/-- The list as far as it is read, in the struct at block rB. -/
structure RdSt (w0 wq : World) (rB : Nat) (e : Int) (v : Value) (xs : List Int) : Prop where
  own : OwnI 3 (rB + 1) wq v xs
  c0 : wq.cell? ⟨rB, 0, none⟩ = some (.int .i64 e)
  c1 : wq.cell? ⟨rB, 1, none⟩ = some v
  f1 : wq.frozen? ⟨rB, 1, none⟩ = false
  lt : rB < wq.heap.size
  bel : Below w0.heap.size w0 wq
/-- What Read says of bytes. -/
def ReadPost (bs : List Int) (w : World) (r : Ending) (w' : World) : Prop :=
  Below w.heap.size w w' ∧ ((∃ e l vl, readL bs = some (e, l) ∧ r = .returned (.tuple #[rootV e vl, .bool true]) ∧ RdK .i64 w' vl l ∧ ∀ g, vl.ownBlock = some g → w.heap.size ≤ g) ∨ (readL bs = none ∧ r = .returned noRoot))
set_option maxHeartbeats 4000000 in
set_option maxRecDepth 100000 in
theorem read_main {ks : List Nat} {B : Nat} {p : Nat → Addr} {w : World} (hE : Errs ks B p w) (hk2 : 2 ∈ ks) (hk4 : 4 ∈ ks) {v : Value} {bs : List Int} (hv : RdB w v bs) (hl : bs.length = 128) (hb : isBytes bs) (h6 : bs.getD 6 0 ≤ 40) :
    Calls Tryd.prog 33 #[v] w (ReadPost bs w) := by
  have hv0 := hv
  rcases hv with ⟨_, h0⟩ | ⟨g, off, c, rfl, h1, h2, hg, hcell⟩
  · rw [h0] at hl; cases hl
  have d6 := hcell 6 (by omega)
  have HE := Lib.hid hE
  have HR := Lib.hid hv0
  have HL := Lib.hid hl
  have HC := Lib.hid hcell
  have HBy := Lib.hid hb
  have hx6 := getD_byte hb 6
  rw [hl] at h1 ⊢
  unfold maxLen at h2
  obtain ⟨m, hm⟩ : ∃ m : Nat, bs.getD 6 0 = (m : Int) := ⟨(bs.getD 6 0).toNat, by omega⟩
  have HM := Lib.hid hm
  have HH6 := Lib.hid h6
  rw [hm] at d6 h6 hx6
  have hdl : (listOf bs).length = m := by simp only [listOf, List.length_map, List.length_range, hm, Int.toNat_natCast]
  have HLL := Lib.hid hdl
  have hd40 : decide (40 < (m : Int)) = false := decide_eq_false (by omega)
  clear hcell hl hv0 hb hm hdl hE
  go_enter Tryd.func33, Tryd.ntmps33
  go_wp2_with fail
  refine (rnum_calls (bs := bs) (by have := HR.out.below (show Below w.heap.size w (w.alloc (.cells #[.int .i64 0, .slice none 0 0] 48)) by (repeat (first | exact Below.refl _ _ | assumption | refine Below.drew ?_ | refine below_many ?_ _ | refine Below.alloc ?_ (by first | (simp; done) | (simp; omega) | omega) _ | refine Below.setCell ?_ (by first | (simp; done) | (simp; omega) | omega) _))); rwa [HL.out] at this) (by rw [HL.out]; decide) HBy.out).mono ?_
  rintro r w1 ⟨rfl, rfl⟩
  go_wp2_with fail
  obtain ⟨e, he⟩ : ∃ e, e = num6 bs := ⟨_, rfl⟩
  rw [← he]
  have HEe := Lib.hid he
  clear he hd40
  obtain ⟨w0, hw0⟩ : ∃ w0, w0 = w.alloc (Obj.cells #[Value.int IntKind.i64 0, Value.slice none 0 0] 48) := ⟨_, rfl⟩
  have hz0 : w0.heap.size = w.heap.size + 1 := by rw [hw0]; simp
  have hr0 : ∀ o, w0.cell? ⟨w.heap.size, o, none⟩ = (#[Value.int IntKind.i64 0, Value.slice none 0 0] : Array Value)[o]? := fun o => by rw [hw0]; exact cell_new w _ _ o
  have hrf : ∀ o, w0.frozen? ⟨w.heap.size, o, none⟩ = false := fun o => by rw [hw0]; exact frozen_new w _ _ o
  have hb0 : Below w.heap.size w w0 := by rw [hw0]; (repeat (first | exact Below.refl _ _ | assumption | refine Below.drew ?_ | refine below_many ?_ _ | refine Below.alloc ?_ (by first | (simp; done) | (simp; omega) | omega) _ | refine Below.setCell ?_ (by first | (simp; done) | (simp; omega) | omega) _))
  rw [← hw0, show w.heap.size + 1 = w0.heap.size from hz0.symm]
  have HS0 : Hid (RdSt w (w0.alloc (Obj.cells #[Value.int IntKind.i64 e, Value.slice none 0 0] 48)) w0.heap.size e (.slice none 0 0) ((listOf bs).take 0)) := ⟨OwnI.nil _ _ _, cell_new w0 _ _ 0, cell_new w0 _ _ 1, frozen_new w0 _ _ 1, by simp, hb0.alloc hb0.size _⟩
  have HR0 := Lib.hid hr0
  have HRF := Lib.hid hrf
  have HZ0 := Lib.hid hz0
  clear hw0 hz0 hr0 hrf hb0
  go_loopw [25] (fun i wq => ∃ (k : Nat) (vl : Value), k ≤ m ∧ i = .int .i64 k ∧ Hid (RdSt w wq w0.heap.size e vl ((listOf bs).take k)) ∧ Hid (∀ o, wq.cell? ⟨w.heap.size, o, none⟩ = (#[Value.int IntKind.i64 0, Value.slice none 0 0] : Array Value)[o]? ∧ wq.frozen? ⟨w.heap.size, o, none⟩ = false)) (fun i _ => m - (intOf i).toNat)
  case atStart =>
    refine ⟨0, _, Nat.zero_le _, rfl, HS0, fun o => ?_⟩
    have hbb : Below w0.heap.size w0 (w0.alloc (Obj.cells #[Value.int IntKind.i64 e, Value.slice none 0 0] 48)) := (Below.refl _ _).alloc (Nat.le_refl _) _
    have hlt : w.heap.size < w0.heap.size := by have := HZ0.out; omega
    exact ⟨(hbb.cell (p := ⟨w.heap.size, o, none⟩) hlt).trans (HR0.out o), (hbb.frozen (p := ⟨w.heap.size, o, none⟩) hlt).trans (HRF.out o)⟩
  case round =>
    obtain ⟨k, vl, hk, rfl, hS, hX⟩ := hrel
    clear HS0
    by_cases hkl : k < m
    · obtain ⟨al, cl, hvl⟩ := hS.out.own.len
      have hkb : ((listOf bs).take k).length = k := by rw [List.length_take, HLL.out]; omega
      rw [hkb] at hvl
      subst hvl
      have s1 := hS.out.c1
      have sf := hS.out.f1
      have slt := hS.out.lt
      have hbl := hS.out.bel
      have d7 := (hbl.cell (p := ⟨g, off + (7 + 2 * k), none⟩) hg).trans (HC.out (7 + 2 * k) (by rw [HL.out]; omega))
      have d8 := (hbl.cell (p := ⟨g, off + (7 + 2 * k + 1), none⟩) hg).trans (HC.out (7 + 2 * k + 1) (by rw [HL.out]; omega))
      have hx7 := getD_byte HBy.out (7 + 2 * k)
      have hx8 := getD_byte HBy.out (7 + 2 * k + 1)
      have HT : Hid ((listOf bs).take (k + 1) = (listOf bs).take k ++ [bs.getD (7 + 2 * k) 0 + bs.getD (7 + 2 * k + 1) 0 * 256]) := by
        have := listOf_succ bs k (by rw [HM.out, Int.toNat_natCast]; exact hkl)
        rwa [show 8 + 2 * k = 7 + 2 * k + 1 by omega] at this
      generalize bs.getD (7 + 2 * k) 0 = x at d7 hx7 HT
      generalize bs.getD (7 + 2 * k + 1) 0 = y at d8 hx8 HT
      have e28 : (2 : Int) ^ 8 = 256 := by decide
      have hor : bits .or .i64 x (wrap64 (y * 256)) = x + y * 256 := or_low 8 (by decide) x y hx7.1 (by omega) hx8.1 hx8.2
      clear e28
      have HB := Lib.hid hbl
      clear hbl hkb
      go_wp2_with fail
      have hq1 : IntKind.i64.wrap (2 * (k : Int)) = 2 * (k : Int) := IntWalk.i64_in _ (by omega)
      have hq2 : IntKind.i64.wrap (7 + 2 * (k : Int)) = 7 + 2 * (k : Int) := IntWalk.i64_in _ (by omega)
      have hq3 : IntKind.i64.wrap (7 + 2 * (k : Int) + 1) = 7 + 2 * (k : Int) + 1 := IntWalk.i64_in _ (by omega)
      have hq4 : 0 ≤ 7 + 2 * (k : Int) ∧ 7 + 2 * (k : Int) < 128 := by omega
      have hq5 : 0 ≤ 7 + 2 * (k : Int) + 1 ∧ 7 + 2 * (k : Int) + 1 < 128 := by omega
      have hq6 : (7 + 2 * (k : Int)).toNat = 7 + 2 * k := by omega
      have hq7 : (7 + 2 * (k : Int) + 1).toNat = 7 + 2 * k + 1 := by omega
      have hq8 : IntKind.i64.wrap x = x := IntWalk.i64_in _ (by omega)
      have hq9 : IntKind.i64.wrap y = y := IntWalk.i64_in _ (by omega)
      have hq10 : IntKind.i64.wrap (y * 256) = y * 256 := IntWalk.i64_in _ (by omega)
      have hor2 : bits .or .i64 x (y * 256) = x + y * 256 := by
        have e1 : wrap64 (y * 256) = y * 256 := by unfold wrap64; omega
        rwa [e1] at hor
      obtain ⟨wa, hwa⟩ : ∃ wa, wa = (wr.alloc (.cells #[.int .i64 (x + y * 256)] 3)).drew := ⟨_, rfl⟩
      have hba : Below wr.heap.size wr wa := by rw [hwa]; (repeat (first | exact Below.refl _ _ | assumption | refine Below.drew ?_ | refine below_many ?_ _ | refine Below.alloc ?_ (by first | (simp; done) | (simp; omega) | omega) _ | refine Below.setCell ?_ (by first | (simp; done) | (simp; omega) | omega) _))
      have HOa : Hid (OwnI 3 (w0.heap.size + 1) wa (.slice al k cl) ((listOf bs).take k)) := by
        have := hS.out.own.below hba
        have hkb : ((listOf bs).take k).length = k := by rw [List.length_take, HLL.out]; omega
        exact this
      have HNa : Hid (∀ i, i < [x + y * 256].length → wa.cell? ((⟨wr.heap.size, 0, none⟩ : Addr).add i) = some (.int .i64 ([x + y * 256].getD i 0))) := fun i hi => by
        obtain rfl : i = 0 := by simpa using hi
        rw [hwa]
        exact cell_new wr _ _ 0
      have HLk : Hid (((listOf bs).take k).length + [x + y * 256].length ≤ 1000000) := by unfold Hid; rw [List.length_take, HLL.out]; simp; omega
      have HL5 : Hid (((listOf bs).take k ++ [x + y * 256]).length = k + 1) := by unfold Hid; rw [List.length_append, List.length_take, HLL.out]; simp; omega
      have t1 := (hba.cell (p := ⟨w0.heap.size, 1, none⟩) slt).trans s1
      have tf := (hba.frozen (p := ⟨w0.heap.size, 1, none⟩) slt).trans sf
      have t0 := (hba.cell (p := ⟨w0.heap.size, 0, none⟩) slt).trans hS.out.c0
      have hsa : w0.heap.size + 1 ≤ wa.heap.size := by have := hba.size; omega
      have T1 := Lib.hid t1
      have TF := Lib.hid tf
      have T0 := Lib.hid t0
      have HBa : Hid (Below w.heap.size w wa) := HB.out.trans (hba.mono HB.out.size)
      have HXa : Hid (∀ o, wa.cell? ⟨w.heap.size, o, none⟩ = (#[Value.int IntKind.i64 0, Value.slice none 0 0] : Array Value)[o]? ∧ wa.frozen? ⟨w.heap.size, o, none⟩ = false) := fun o => by
        have hlt : w.heap.size < wr.heap.size := by have := HZ0.out; omega
        exact ⟨(hba.cell (p := ⟨w.heap.size, o, none⟩) hlt).trans (hX.out o).1, (hba.frozen (p := ⟨w.heap.size, o, none⟩) hlt).trans (hX.out o).2⟩
      clear hba t1 tf t0 hor
      subst hwa
      go_region_law (first | (refine step_appI (by rfl) (.tmp 29) (.tmp 47) 42 (by rfl) 3 Tryd.underlying42 infoIntR (w0.heap.size + 1) (.slice al k cl) ((listOf bs).take k) [x + y * 256] (by rfl) HOa.out ⟨wr.heap.size, 0, none⟩ 1 1 (by rfl) rfl HNa.out HLk.out hsa ?_; intro v5 w5 ho5 hb5; obtain ⟨a5, c5, hv5⟩ := ho5.len; rw [HL5.out] at hv5; subst hv5; have u1 := (hb5.cell (p := ⟨w0.heap.size, 1, none⟩) (Nat.lt_succ_self _)).trans T1.out; have uf := (hb5.frozen (p := ⟨w0.heap.size, 1, none⟩) (Nat.lt_succ_self _)).trans TF.out; have HO5 := Lib.hid ho5; have HB5 := Lib.hid hb5; clear ho5 hb5))
      all_goals
        have kS := keep_setCell w5 ⟨w0.heap.size, 1, none⟩ (.slice a5 (k + 1) c5)
        have hz0 := HZ0.out
        have hl5 : w0.heap.size < w5.heap.size := by have := HB5.out.size; omega
        have HS6 : Hid (RdSt w (w5.setCell ⟨w0.heap.size, 1, none⟩ (.slice a5 (k + 1) c5)) w0.heap.size e (.slice a5 (k + 1) c5) ((listOf bs).take (k + 1))) := by
          unfold Hid
          rw [HT.out]
          refine ⟨OwnI.kept HO5.out kS (fun z hz e => by have := (HO5.out.block z hz).1; simp only at e; omega), ?_, World.cell?_setCell_same' _ _ _ (by rw [u1]; rfl), by rw [frozen_setCell]; exact uf, by rw [show (w5.setCell ⟨w0.heap.size, 1, none⟩ (.slice a5 (k + 1) c5)).heap.size = w5.heap.size by simp [World.setCell]]; exact hl5, ?_⟩
          · rw [cell_setCell_other (by decide)]
            exact (HB5.out.cell (p := ⟨w0.heap.size, 0, none⟩) (Nat.lt_succ_self _)).trans T0.out
          · exact (HBa.out.trans (HB5.out.mono (by omega))).setCell (by simp only; omega) _
        have HX6 : Hid (∀ o, (w5.setCell ⟨w0.heap.size, 1, none⟩ (.slice a5 (k + 1) c5)).cell? ⟨w.heap.size, o, none⟩ = (#[Value.int IntKind.i64 0, Value.slice none 0 0] : Array Value)[o]? ∧ (w5.setCell ⟨w0.heap.size, 1, none⟩ (.slice a5 (k + 1) c5)).frozen? ⟨w.heap.size, o, none⟩ = false) := fun o => by
          have h1 : w.heap.size < w0.heap.size + 1 := by omega
          have h2 : ¬ w.heap.size = w0.heap.size := by omega
          exact ⟨(kS.cell (x := ⟨w.heap.size, o, none⟩) (by simp only; omega) h2).trans ((HB5.out.cell (p := ⟨w.heap.size, o, none⟩) h1).trans (HXa.out o).1), (kS.frozen (x := ⟨w.heap.size, o, none⟩) (by simp only; omega) h2).trans ((HB5.out.frozen (p := ⟨w.heap.size, o, none⟩) h1).trans (HXa.out o).2)⟩
        clear kS hq1 hq2 hq3 hq4 hq5 hq6 hq7 hq8 hq9 hq10 hor2 u1 uf HO5 HB5 hz0
        go_wp2_with fail
        go_roundw
        case rel => exact ⟨k + 1, .slice a5 (k + 1) c5, by omega, by go_num, HS6, HX6⟩
        case measure => simp [intOf]; omega
    · obtain rfl : k = m := by omega
      obtain ⟨al, cl, hvl⟩ := hS.out.own.len
      have hkb : ((listOf bs).take k).length = k := by rw [List.length_take, HLL.out]; omega
      rw [hkb] at hvl
      subst hvl
      have hown := hS.out.own
      rw [List.take_of_length_le (by rw [HLL.out]; exact Nat.le_refl _)] at hown
      have HV := Lib.hid hown.rdK
      have HOB : Hid (∀ g, (Value.slice al k cl).ownBlock = some g → w0.heap.size + 1 ≤ g) := fun g hg => (hown.block g hg).1
      have s0 := hS.out.c0
      have s1 := hS.out.c1
      have HB := Lib.hid hS.out.bel
      have hsz := hS.out.bel.size
      have hrl := hS.out.lt
      clear hown hS hkb
      have x0 := (hX.out 0).1
      have x1 := (hX.out 1).1
      have xf := fun o => (hX.out o).2
      have hrw : w.heap.size < wr.heap.size := by have := HZ0.out; omega
      have HX0 := Lib.hid x0
      have HX1 := Lib.hid x1
      have HXf := Lib.hid xf
      clear x0 x1 xf hX
      go_wp2_with fail
      by_cases hok : rootOk e (listOf bs)
      · have HOK := Lib.hid hok
        clear hok
        refine (bytes_ok HV.out HOK.out).mono ?_
        rintro r w1 ⟨u, rfl, hO, hb⟩
        have ho := hO.len
        rw [rootL_length] at ho
        obtain ⟨au, cu, rfl⟩ := ho
        have HU := Lib.hid hO.rd
        have HV1 := Lib.hid (HV.out.below hb)
        have HB1 : Hid (Below w.heap.size w w1) := HB.out.trans (hb.mono HB.out.size)
        have s0' := (hb.cell (p := ⟨w0.heap.size, 0, none⟩) hrl).trans s0
        have s1' := (hb.cell (p := ⟨w0.heap.size, 1, none⟩) hrl).trans s1
        have x0 := (hb.cell (p := ⟨w.heap.size, 0, none⟩) hrw).trans HX0.out
        have x1 := (hb.cell (p := ⟨w.heap.size, 1, none⟩) hrw).trans HX1.out
        have xf := fun o => (hb.frozen (p := ⟨w.heap.size, o, none⟩) hrw).trans (HXf.out o)
        have HX0' := Lib.hid x0
        have HX1' := Lib.hid x1
        have HXf' := Lib.hid xf
        have hs1 := hb.size
        clear hb hO s0 s1 x0 x1 xf HV HB HX0 HX1 HXf
        go_wp2_with fail
        refine (equalB_calls (xs := rootL e (listOf bs)) (ys := bs) (by have := HU.out; exact this) (by have := HR.out.below HB1.out; rwa [HL.out] at this)).mono ?_
        rintro r w2 ⟨rfl, hb⟩
        have HV2 := Lib.hid (HV1.out.below hb)
        have HB2 : Hid (Below w.heap.size w w2) := HB1.out.trans (hb.mono HB1.out.size)
        have hrl1 : w0.heap.size < w1.heap.size := by omega
        have hrw1 : w.heap.size < w1.heap.size := by omega
        have q0 := (hb.cell (p := ⟨w0.heap.size, 0, none⟩) hrl1).trans s0'
        have q1 := (hb.cell (p := ⟨w0.heap.size, 1, none⟩) hrl1).trans s1'
        have x0 := (hb.cell (p := ⟨w.heap.size, 0, none⟩) hrw1).trans HX0'.out
        have x1 := (hb.cell (p := ⟨w.heap.size, 1, none⟩) hrw1).trans HX1'.out
        have xf0 := (hb.frozen (p := ⟨w.heap.size, 0, none⟩) hrw1).trans (HXf'.out 0)
        have xf1 := (hb.frozen (p := ⟨w.heap.size, 1, none⟩) hrw1).trans (HXf'.out 1)
        have hs2 := hb.size
        clear hb s0' s1' HV1 HB1 HX0' HX1' HXf' HU
        by_cases heq : rootL e (listOf bs) = bs
        · have hd : decide (rootL e (listOf bs) = bs) = true := decide_eq_true heq
          have HRe : Hid (readL bs = some (e, listOf bs)) := by
            unfold Hid readL
            rw [← HEe.out, if_pos ⟨HL.out, HH6.out, HOK.out, heq⟩]
          rw [hd]
          clear hd heq
          go_wp2_with fail
          refine bodyPost_ret (v := .tuple #[rootV e (.slice al k cl), .bool true]) (by simp [results, Tryd.results33, go_sem, x0, x1]) rfl ?_
          have kS := (keep_setCell w2 ⟨w.heap.size, 0, none⟩ (.int .i64 e)).trans (keep_setCell _ ⟨w.heap.size, 1, none⟩ (.slice al k cl))
          exact ⟨(HB2.out.setCell (Nat.le_refl _) _).setCell (Nat.le_refl _) _, .inl ⟨e, listOf bs, _, HRe.out, rfl, HV2.out.keep kS (fun g hg e => by have := HOB.out g hg; have := HZ0.out; simp only at e; omega), fun g hg => by have := HOB.out g hg; have := HZ0.out; omega⟩⟩
        · have hd : decide (rootL e (listOf bs) = bs) = false := decide_eq_false heq
          have HRe : Hid (readL bs = none) := by
            unfold Hid readL
            rw [← HEe.out, if_neg (fun h => heq h.2.2.2)]
          rw [hd]
          clear hd heq
          go_wp2_with fail
          refine bodyPost_ret (v := noRoot) (by simp [noRoot, results, Tryd.results33, go_sem, x0, x1]) rfl ?_
          exact ⟨by have := HB2.out; (repeat (first | exact Below.refl _ _ | assumption | refine Below.drew ?_ | refine below_many ?_ _ | refine Below.alloc ?_ (by first | (simp; done) | (simp; omega) | omega) _ | refine Below.setCell ?_ (by first | (simp; done) | (simp; omega) | omega) _)), .inr ⟨HRe.out, rfl⟩⟩
      · have HNK := Lib.hid hok
        have HRe : Hid (readL bs = none) := by
          unfold Hid readL
          rw [← HEe.out, if_neg (fun h => hok h.2.2.1)]
        clear hok
        refine (bytes_bad (HE.out.below (HB.out.mono HE.out.size)) hk2 hk4 HV.out HNK.out).mono ?_
        rintro r w1 ⟨rfl, hb⟩
        have HB1 : Hid (Below w.heap.size w w1) := HB.out.trans (hb.mono HB.out.size)
        have x0 := (hb.cell (p := ⟨w.heap.size, 0, none⟩) hrw).trans HX0.out
        have x1 := (hb.cell (p := ⟨w.heap.size, 1, none⟩) hrw).trans HX1.out
        have xf0 := (hb.frozen (p := ⟨w.heap.size, 0, none⟩) hrw).trans (HXf.out 0)
        have xf1 := (hb.frozen (p := ⟨w.heap.size, 1, none⟩) hrw).trans (HXf.out 1)
        have hs1 := hb.size
        clear hb HB HX0 HX1 HXf s0 s1
        unfold ev errV
        go_wp2_with fail
        refine bodyPost_ret (v := noRoot) (by simp [noRoot, results, Tryd.results33, go_sem, x0, x1]) rfl ?_
        exact ⟨by have := HB1.out; (repeat (first | exact Below.refl _ _ | assumption | refine Below.drew ?_ | refine below_many ?_ _ | refine Below.alloc ?_ (by first | (simp; done) | (simp; omega) | omega) _ | refine Below.setCell ?_ (by first | (simp; done) | (simp; omega) | omega) _)), .inr ⟨HRe.out, rfl⟩⟩
theorem read_calls {ks : List Nat} {B : Nat} {p : Nat → Addr} {w : World} (hE : Errs ks B p w) (hk2 : 2 ∈ ks) (hk4 : 4 ∈ ks) {v : Value} {bs : List Int} (hv : RdB w v bs) (hb : isBytes bs) :
    Calls Tryd.prog 33 #[v] w (ReadPost bs w) := by
  by_cases hl : bs.length = 128
  · by_cases h6 : bs.getD 6 0 ≤ 40
    · exact read_main hE hk2 hk4 hv hl hb h6
    · refine (read_many hv hl (by omega)).mono ?_
      rintro r w1 ⟨rfl, hb⟩
      refine ⟨hb, .inr ⟨?_, rfl⟩⟩
      unfold readL
      rw [if_neg (fun h => h6 h.2.1)]
  · refine (read_short hv hl).mono ?_
    rintro r w1 ⟨rfl, hb⟩
    exact ⟨hb, .inr ⟨readL_length hl, rfl⟩⟩
end Go.Proofs.YtehacchacgfjlaaDoor
