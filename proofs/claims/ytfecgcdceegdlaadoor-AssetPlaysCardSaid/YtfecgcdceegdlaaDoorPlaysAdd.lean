/- pledgeref.Assets, pledgeref10.AddAsset: what each call returns. -/
import Derived.Test.YtfecgcdceegdlaaDoorPlaysRef
import Derived.Deep.RegionLaw
namespace Go.Proofs.YtfecgcdceegdlaaDoor
open Go.Maps
open Go Go.RowKit
set_option linter.unusedSimpArgs false
set_option linter.unusedVariables false

theorem ahead_cons (x : AS) (L : List AS) (id : Int) : aheadA (x :: L) id = if x.1 < id then aheadA L id + 1 else 0 := by
  unfold aheadA
  by_cases h : x.1 < id
  · rw [List.takeWhile_cons_of_pos (by simpa using h), if_pos h]; rfl
  · rw [List.takeWhile_cons_of_neg (by simpa using h), if_neg h]; rfl
theorem ahead_lt : ∀ {L : List AS} {id : Int} {k : Nat}, k < aheadA L id → ∃ x, L[k]? = some x ∧ x.1 < id
  | [], id, k, h => by simp [aheadA] at h
  | x :: L, id, k, h => by
    rw [ahead_cons] at h
    by_cases hx : x.1 < id
    · rw [if_pos hx] at h
      cases k with
      | zero => exact ⟨x, rfl, hx⟩
      | succ k => exact ahead_lt (L := L) (by omega)
    · rw [if_neg hx] at h; omega
theorem ahead_stop : ∀ {L : List AS} {id : Int}, aheadA L id = L.length ∨ ∃ x, L[aheadA L id]? = some x ∧ id ≤ x.1
  | [], id => .inl rfl
  | x :: L, id => by
    rw [ahead_cons]
    by_cases hx : x.1 < id
    · rw [if_pos hx]
      rcases ahead_stop (L := L) (id := id) with h | ⟨y, h1, h2⟩
      · exact .inl (by rw [h]; rfl)
      · exact .inr ⟨y, by simpa using h1, h2⟩
    · rw [if_neg hx]
      exact .inr ⟨x, rfl, by omega⟩

set_option maxHeartbeats 1000000 in
set_option maxRecDepth 100000 in
theorem assets_calls {w : World} {v : Value} {L : List AS} (hR : RdA w v L) (hL : L.length ≤ 1000) :
    Calls Tryd.prog 74 #[v] w fun e w' => ∃ v', e = .returned v' ∧ OwnA 29 w.heap.size w' v' L ∧ Below w.heap.size w w' := by
  obtain ⟨ad, cap, rfl, hlc, hcm⟩ := hR.len
  have HR := Lib.hid hR
  clear hR
  unfold maxLen at hcm
  obtain ⟨i0, hi, hz0, hz1, hz2⟩ := info_parts infoAsset
  go_enter Tryd.func74, Tryd.ntmps74
  go_wp2_with (at_make; refine wpList_make_own _ rfl _ _ 34 rfl w.heap.size 29 i0 (astV zeroA) 5 Tryd.underlying34 hi hz0 hz1 _ _ _ L.length rfl rfl rfl (by rw [hz2]; omega) (by unfold maxLen; omega) (Nat.le_refl _) ?_)
  intro w1 hown hgrow
  have hA0 : Hid (OwnA 29 w.heap.size w1 (.slice (some ⟨w.heap.size, 0, none⟩) 0 L.length) []) := hown
  have hB0 : Hid (Below w.heap.size w w1) := (Below.refl _ _).grown hgrow (Nat.le_refl _) (fun k hk => by cases hk)
  clear hown hgrow
  go_wp2_with fail
  go_loopw [4, 3] (fun i u wq => ∃ k : Nat, k ≤ L.length ∧ i = .int .i64 k ∧ Hid (OwnA 29 w.heap.size wq u (L.take k)) ∧ Hid (Below w.heap.size w wq)) (fun i _ _ => L.length - (intOf i).toNat)
  case atStart => exact ⟨0, Nat.zero_le _, rfl, hA0, hB0⟩
  case round =>
    obtain ⟨k, hk, rfl, hA, hB⟩ := hrel
    by_cases hkl : k < L.length
    · obtain ⟨x, hx⟩ : ∃ x, L[k]? = some x := ⟨_, List.getElem?_eq_getElem hkl⟩
      obtain ⟨g, cap', hv, hg, _, _, d0, d1, d2, d3, d4⟩ := (HR.out.below hB.out).at hx
      simp only [Value.slice.injEq, true_and] at hv
      obtain ⟨rfl, rfl⟩ := hv
      have HT : Hid (L.take (k + 1) = L.take k ++ [x]) := take_snocA hx
      have hsr := hB.out.size
      obtain ⟨x1, x2, x3, x4, x5⟩ := x
      try dsimp only at d0 d1 d2 d3 d4
      clear hx
      go_wp2_with (at_builtin; refine wpList_appA rfl _ _ 34 rfl 29 Tryd.underlying34 (by rfl) infoAsset w.heap.size _ (L.take k) [(x1, x2, x3, x4, x5)] rfl (hA.out.alloc _) ⟨wr.heap.size, 0, none⟩ 1 1 rfl rfl ?c1 ?c2 ?c3 ?_)
      case c1 => exact fun z u hz => cells_fresh wr _ _ z u hz
      case c2 => simp; omega
      case c3 => simp; omega
      intro v5 w10 hO10 hk10
      have hbk := (hA.out.alloc (Obj.cells #[.int .i64 x1, .int .i64 x2, .int .i64 x3, .int .i64 x4, .int .i64 x5] 29)).block
      have HB10 : Hid (Below w.heap.size w w10) := Below.trans (show Below w.heap.size w _ by have := hB.out; (repeat (first | exact Below.refl _ _ | assumption | refine Below.drew ?_ | refine below_many ?_ _ | refine Below.alloc ?_ (by first | (simp; done) | (simp; omega) | omega) _ | refine Below.setCell ?_ (by first | (simp; done) | (simp; omega) | omega) _))) (hk10.below (by simp; omega) (fun z hz e => by have := (hbk z e).1; omega))
      have HO10 : Hid (OwnA 29 w.heap.size w10 v5 (L.take (k + 1))) := by unfold Hid; rw [HT.out]; exact hO10
      clear hO10 hk10 hbk hA hB
      go_wp2_with fail
      go_roundw
      case rel => exact ⟨k + 1, by omega, by go_num, HO10, HB10⟩
      case measure => simp [intOf]; omega
    · obtain rfl : k = L.length := by omega
      have hA' := hA.out
      rw [List.take_length] at hA'
      have HA' := Lib.hid hA'
      clear hA hA'
      go_wp2_with fail
      go_ret
      exact ⟨_, rfl, HA'.out, hB.out⟩

set_option maxHeartbeats 1000000 in
set_option maxRecDepth 100000 in
theorem addRef_bad {w : World} {v : Value} {L : List AS} (hR : RdA w v L) (a : AS) (hv : goodA a = false) :
    Calls Tryd.prog 21 #[v, astV a] w fun e w' => e = .returned (.tuple #[v, .int .i64 103]) ∧ Below w.heap.size w w' := by
  obtain ⟨ad, cap, rfl, hlc, hcm⟩ := hR.len
  obtain ⟨a1, a2, a3, a4, a5⟩ := a
  have HV := Lib.hid (validN_bad hv)
  clear hR hv
  go_enter Tryd.func21, Tryd.ntmps21
  go_wp2_with fail
  refine (validRef_calls _ _ _ _ _).mono ?_
  rintro e w1 ⟨rfl, hb⟩
  rw [HV.out]
  have hB : Below w.heap.size w w1 := Below.trans (show Below w.heap.size w _ by (repeat (first | exact Below.refl _ _ | assumption | refine Below.drew ?_ | refine below_many ?_ _ | refine Below.alloc ?_ (by first | (simp; done) | (simp; omega) | omega) _ | refine Below.setCell ?_ (by first | (simp; done) | (simp; omega) | omega) _))) (hb.mono (by simp))
  clear hb
  go_wp2_with fail
  go_ret2
  exact ⟨rfl, hB⟩

set_option maxHeartbeats 1000000 in
set_option maxRecDepth 100000 in
theorem addRef_there {w : World} {v : Value} {L : List AS} (hR : RdA w v L) (a : AS) (hv : goodA a = true) (hf : 0 ≤ findA L a.1) :
    Calls Tryd.prog 21 #[v, astV a] w fun e w' => e = .returned (.tuple #[v, .int .i64 107]) ∧ Below w.heap.size w w' := by
  obtain ⟨ad, cap, rfl, hlc, hcm⟩ := hR.len
  obtain ⟨a1, a2, a3, a4, a5⟩ := a
  have HV := Lib.hid (validN_ok hv)
  have HR := Lib.hid hR
  clear hR hv
  try dsimp only at hf
  go_enter Tryd.func21, Tryd.ntmps21
  go_wp2_with fail
  refine (validRef_calls _ _ _ _ _).mono ?_
  rintro e w1 ⟨rfl, hb⟩
  rw [HV.out]
  have hB : Below w.heap.size w w1 := Below.trans (show Below w.heap.size w _ by (repeat (first | exact Below.refl _ _ | assumption | refine Below.drew ?_ | refine below_many ?_ _ | refine Below.alloc ?_ (by first | (simp; done) | (simp; omega) | omega) _ | refine Below.setCell ?_ (by first | (simp; done) | (simp; omega) | omega) _))) (hb.mono (by simp))
  have q0 := (hb.cell (p := ⟨w.heap.size, 0, none⟩) (by simp)).trans (show _ = some (Value.int .i64 a1) by go_simp)
  have HR1 := Lib.hid (HR.out.below hB)
  clear hb
  go_wp2_with fail
  refine (findRef_calls HR1.out _).mono ?_
  rintro e _ ⟨rfl, rfl⟩
  generalize findA L a1 = n at hf ⊢
  go_wp2_with fail
  go_ret2
  exact ⟨rfl, hB⟩

set_option maxHeartbeats 8000000 in
set_option maxRecDepth 100000 in
theorem addRef_add {w : World} {v : Value} {L : List AS} (hR : RdA w v L) (hL : L.length ≤ 100) (a : AS) (hv : goodA a = true) (hf : findA L a.1 < 0) :
    Calls Tryd.prog 21 #[v, astV a] w fun e w' => ∃ v', e = .returned (.tuple #[v', .int .i64 0]) ∧ OwnA 29 w.heap.size w' v' (addA L a) ∧ Below w.heap.size w w' := by
  obtain ⟨ad, cap, rfl, hlc, hcm⟩ := hR.len
  unfold maxLen at hcm
  have hal := aheadA_le L a.1
  have HL : ∀ k : Nat, k < aheadA L a.1 → ∃ x, L[k]? = some x ∧ x.1 < a.1 := fun k => ahead_lt
  have HS := Lib.hid (ahead_stop (L := L) (id := a.1))
  have HAdd : Hid (addA L a = L.take (aheadA L a.1) ++ [a] ++ L.drop (aheadA L a.1)) := rfl
  obtain ⟨a1, a2, a3, a4, a5⟩ := a
  have HV := Lib.hid (validN_ok hv)
  have HR := Lib.hid hR
  have HLl := Lib.hid HL
  clear hR hv HL
  try dsimp only at hf hal
  generalize hA : aheadA L a1 = A at hal HLl HS HAdd
  clear hA
  go_enter Tryd.func21, Tryd.ntmps21
  go_wp2_with fail
  refine (validRef_calls _ _ _ _ _).mono ?_
  rintro e w1 ⟨rfl, hb⟩
  rw [HV.out]
  have hB : Below w.heap.size w w1 := Below.trans (show Below w.heap.size w _ by (repeat (first | exact Below.refl _ _ | assumption | refine Below.drew ?_ | refine below_many ?_ _ | refine Below.alloc ?_ (by first | (simp; done) | (simp; omega) | omega) _ | refine Below.setCell ?_ (by first | (simp; done) | (simp; omega) | omega) _))) (hb.mono (by simp))
  have hq : ∀ i u, (w.alloc (Obj.cells #[.int .i64 a1, .int .i64 a2, .int .i64 a3, .int .i64 a4, .int .i64 a5] 29)).cell? ⟨w.heap.size, i, none⟩ = some u → w1.cell? ⟨w.heap.size, i, none⟩ = some u := fun i u hu => (hb.cell (p := ⟨w.heap.size, i, none⟩) (by simp)).trans hu
  have q0 := hq 0 (.int .i64 a1) (by go_simp)
  have q1 := hq 1 (.int .i64 a2) (by go_simp)
  have q2 := hq 2 (.int .i64 a3) (by go_simp)
  have q3 := hq 3 (.int .i64 a4) (by go_simp)
  have q4 := hq 4 (.int .i64 a5) (by go_simp)
  have hs1 : w.heap.size < w1.heap.size := by have := hb.size; simp at this; omega
  have HR1 := Lib.hid (HR.out.below hB)
  have HB1 := Lib.hid hB
  clear hb hq hB HR HV
  go_wp2_with fail
  refine (findRef_calls HR1.out _).mono ?_
  rintro e _ ⟨rfl, rfl⟩
  generalize findA L a1 = n at hf ⊢
  go_wp2_with fail
  go_loopw [7] (fun i wq => ∃ k : Nat, k ≤ A ∧ i = .int .i64 k ∧ Hid (Below w1.heap.size w1 wq)) (fun i _ => A - (intOf i).toNat)
  case atStart => exact ⟨0, Nat.zero_le _, rfl, Below.refl _ _⟩
  case round =>
    obtain ⟨k, hk, rfl, hBk⟩ := hrel
    have hsk := hBk.out.size
    have r0 := (hBk.out.cell (p := ⟨w.heap.size, 0, none⟩) hs1).trans q0
    by_cases hkl : k < A
    · obtain ⟨x, hx, hxa⟩ := HLl.out k hkl
      obtain ⟨g, cap', hv, hg, _, _, d0, d1, d2, d3, d4⟩ := (HR1.out.below hBk.out).at hx
      simp only [Value.slice.injEq, true_and] at hv
      obtain ⟨rfl, rfl⟩ := hv
      obtain ⟨x1, x2, x3, x4, x5⟩ := x
      try dsimp only at d0 hxa
      have hBk' : ∀ nq, Hid (Below w1.heap.size w1 (wr.drewN nq)) := fun nq => below_many hBk.out nq
      have hkL : k < L.length := by omega
      have hkc : k < cap := by omega
      clear hx d1 d2 d3 d4 q0 q1 q2 q3 q4
      go_wp2_with fail
      go_quiet (fail)
      go_wp2_with fail
      go_roundw
      case rel => exact ⟨k + 1, by omega, by go_num, hBk' _⟩
      case measure => simp [intOf]; omega
    · obtain rfl : k = A := by omega
      have hB9 : ∀ nq, Below w1.heap.size w1 (wr.drewN nq) := fun nq => below_many hBk.out nq
      have HB9 := Lib.hid hB9
      have hkc : k ≤ cap := by omega
      rcases HS.out with hst | ⟨x, hx, hxa⟩
      · rcases HR1.out with ⟨hv, hL0⟩ | ⟨g, cap', hv, _⟩
        · simp only [Value.slice.injEq] at hv
          obtain ⟨rfl, _, rfl⟩ := hv
          subst hL0
          obtain rfl : k = 0 := by simpa using hst
          clear hB9 hst
          go_wp2_with fail
          go_quiet (fail)
          go_wp2_with fail
          obtain ⟨w3, hw3⟩ : ∃ w3, w3 = wr.drewN nq := ⟨_, rfl⟩
          have HB3 : Hid (Below w1.heap.size w1 w3) := by rw [hw3]; exact HB9.out nq
          rw [← hw3]
          clear hw3 HB9 r0 hsk hBk
          have hs3 := HB3.out.size
          have p0 := (HB3.out.cell (p := ⟨w.heap.size, 0, none⟩) hs1).trans q0
          have p1 := (HB3.out.cell (p := ⟨w.heap.size, 1, none⟩) hs1).trans q1
          have p2 := (HB3.out.cell (p := ⟨w.heap.size, 2, none⟩) hs1).trans q2
          have p3 := (HB3.out.cell (p := ⟨w.heap.size, 3, none⟩) hs1).trans q3
          have p4 := (HB3.out.cell (p := ⟨w.heap.size, 4, none⟩) hs1).trans q4
          have HR3 := Lib.hid (HR1.out.below HB3.out)
          have HRT : Hid (∀ wq, Below w3.heap.size w3 wq → RdA wq (.slice none 0 0) []) := fun wq _ => RdA.nil wq
          have HTL : Hid (([] : List AS).length ≤ 1000) := by unfold Hid; simp
          have HTk : Hid (([] : List AS).length = 0) := by unfold Hid; rfl
          clear q0 q1 q2 q3 q4
          have hws3 : w.heap.size < w3.heap.size := Nat.lt_of_lt_of_le hs1 hs3
          go_region_law (first | (go_simp; go_at_call 74; refine (assets_calls (HRT.out _ (by (repeat (first | exact Below.refl _ _ | assumption | refine Below.drew ?_ | refine below_many ?_ _ | refine Below.alloc ?_ (by first | (simp; done) | (simp; omega) | omega) _ | refine Below.setCell ?_ (by first | (simp; done) | (simp; omega) | omega) _)))) HTL.out).mono ?_; rintro e w4 ⟨v4, rfl, hO4, hb4⟩; have HB4 : Below w3.heap.size w3 w4 := Below.trans (by (repeat (first | exact Below.refl _ _ | assumption | refine Below.drew ?_ | refine below_many ?_ _ | refine Below.alloc ?_ (by first | (simp; done) | (simp; omega) | omega) _ | refine Below.setCell ?_ (by first | (simp; done) | (simp; omega) | omega) _))) (hb4.mono (by first | exact Nat.le_refl _ | (simp; done) | (simp; omega))); have s0 := (HB4.cell (p := ⟨w.heap.size, 0, none⟩) hws3).trans p0; have s1 := (HB4.cell (p := ⟨w.heap.size, 1, none⟩) hws3).trans p1; have s2 := (HB4.cell (p := ⟨w.heap.size, 2, none⟩) hws3).trans p2; have s3 := (HB4.cell (p := ⟨w.heap.size, 3, none⟩) hws3).trans p3; have s4 := (HB4.cell (p := ⟨w.heap.size, 4, none⟩) hws3).trans p4; have hs4 := HB4.size; obtain ⟨ad4, cap4, rfl⟩ := hO4.len; rw [HTk.out] at hO4 ⊢) | ((go_loud (refine step_appA (by rfl) (.tmp 40) (.tmp 42) 34 (by rfl) 29 Tryd.underlying34 (by rfl) infoAsset w3.heap.size (.slice ad4 0 cap4) [] [(a1, a2, a3, a4, a5)] (by rfl) (by first | exact OwnA.alloc (ownsRow_base_a hO4 (by first | exact Nat.le_refl _ | simp)) _ | exact ownsRow_base_a hO4 (by first | exact Nat.le_refl _ | simp | (simp; omega))) ⟨_, 0, none⟩ 1 1 (by rfl) (by rfl) (by first | exact fun z u hz => cells_fresh _ _ _ z u hz | exact fun z u hz => (hb4.cell (by simp [Addr.add]; split <;> simp)).trans (cells_fresh _ _ _ z u hz)) (by have := HTL.out; simp only [List.length_singleton]; omega) (by first | exact hs4 | (simp; omega)) ?_)); intro v5 w6 hO6 hk6) | fail)
          all_goals
            have HB6 : Below w3.heap.size w3 w6 := Below.trans (by (repeat (first | exact Below.refl _ _ | assumption | refine Below.drew ?_ | refine below_many ?_ _ | refine Below.alloc ?_ (by first | (simp; done) | (simp; omega) | omega) _ | refine Below.setCell ?_ (by first | (simp; done) | (simp; omega) | omega) _))) (hk6.below (by first | exact hs4 | (simp; omega)) (fun z hz e => by have h1 := (hO4.block z e).1; first | (simp at h1; omega) | omega))
            have HO6 := Lib.hid hO6
            have HBw := Lib.hid HB6
            have hs6 := HB6.size
            have hl6 : (([] : List AS) ++ [(a1, a2, a3, a4, a5)]).length = 1 := by rw [List.length_append, HTk.out]; rfl
            obtain ⟨ad5, cap5, hv5⟩ := HO6.out.len
            rw [hl6] at hv5
            subst hv5
            clear hl6
            clear hO6 HB6 hO4 hb4 HB4 hk6 s0 s1 s2 s3 s4 p0 p1 p2 p3 p4 HRT
            go_wp2_with (at_builtin; go_loud (refine wpList_appA_any rfl _ _ 34 rfl 29 Tryd.underlying34 (by rfl) infoAsset w3.heap.size _ ([] ++ [(a1, a2, a3, a4, a5)]) [] rfl HO6.out _ _ _ rfl (by rfl) (fun _ => ⟨rfl, rfl⟩) (fun ad h => by cases h) (by simp) hs6 ?_))
            all_goals
              intro v7 w8 hO8 hk8
              have HB8 : Hid (Below w3.heap.size w3 w8) := HBw.out.trans (hk8.below hs6 (fun z hz e => by have h1 := (HO6.out.block z e).1; omega))
              have HO8 : Hid (OwnA 29 w3.heap.size w8 v7 (addA [] (a1, a2, a3, a4, a5))) := by unfold Hid; rw [HAdd.out]; simpa using hO8
              clear hO8 hk8 HO6 HBw
              go_wp2_with fail
              go_ret2
              refine ⟨_, rfl, ?_, (HB1.out.trans (HB3.out.mono (Nat.le_of_lt hs1))).trans (HB8.out.mono (Nat.le_of_lt hws3))⟩
              exact ownsRow_base_a HO8.out (Nat.le_of_lt hws3)
        · simp only [Value.slice.injEq, true_and] at hv
          obtain ⟨rfl, rfl⟩ := hv
          have hkn : ¬ k < L.length := by omega
          clear hB9 hst
          go_wp2_with fail
          go_quiet (fail)
          go_wp2_with fail
          obtain ⟨w3, hw3⟩ : ∃ w3, w3 = wr.drewN nq := ⟨_, rfl⟩
          have HB3 : Hid (Below w1.heap.size w1 w3) := by rw [hw3]; exact HB9.out nq
          rw [← hw3]
          clear hw3 HB9 r0 hsk hBk
          have hs3 := HB3.out.size
          have p0 := (HB3.out.cell (p := ⟨w.heap.size, 0, none⟩) hs1).trans q0
          have p1 := (HB3.out.cell (p := ⟨w.heap.size, 1, none⟩) hs1).trans q1
          have p2 := (HB3.out.cell (p := ⟨w.heap.size, 2, none⟩) hs1).trans q2
          have p3 := (HB3.out.cell (p := ⟨w.heap.size, 3, none⟩) hs1).trans q3
          have p4 := (HB3.out.cell (p := ⟨w.heap.size, 4, none⟩) hs1).trans q4
          have HR3 := Lib.hid (HR1.out.below HB3.out)
          have HRT : Hid (∀ wq, Below w3.heap.size w3 wq → RdA wq (.slice (some ⟨g, 0, none⟩) k cap) (L.take k)) := fun wq hq => rda_take (HR3.out.below hq) hal
          have HTL : Hid ((L.take k).length ≤ 1000) := by unfold Hid; rw [List.length_take]; omega
          have HTk : Hid ((L.take k).length = k) := by unfold Hid; rw [List.length_take]; omega
          clear q0 q1 q2 q3 q4
          have hws3 : w.heap.size < w3.heap.size := Nat.lt_of_lt_of_le hs1 hs3
          go_region_law (first | (go_simp; go_at_call 74; refine (assets_calls (HRT.out _ (by (repeat (first | exact Below.refl _ _ | assumption | refine Below.drew ?_ | refine below_many ?_ _ | refine Below.alloc ?_ (by first | (simp; done) | (simp; omega) | omega) _ | refine Below.setCell ?_ (by first | (simp; done) | (simp; omega) | omega) _)))) HTL.out).mono ?_; rintro e w4 ⟨v4, rfl, hO4, hb4⟩; have HB4 : Below w3.heap.size w3 w4 := Below.trans (by (repeat (first | exact Below.refl _ _ | assumption | refine Below.drew ?_ | refine below_many ?_ _ | refine Below.alloc ?_ (by first | (simp; done) | (simp; omega) | omega) _ | refine Below.setCell ?_ (by first | (simp; done) | (simp; omega) | omega) _))) (hb4.mono (by first | exact Nat.le_refl _ | (simp; done) | (simp; omega))); have s0 := (HB4.cell (p := ⟨w.heap.size, 0, none⟩) hws3).trans p0; have s1 := (HB4.cell (p := ⟨w.heap.size, 1, none⟩) hws3).trans p1; have s2 := (HB4.cell (p := ⟨w.heap.size, 2, none⟩) hws3).trans p2; have s3 := (HB4.cell (p := ⟨w.heap.size, 3, none⟩) hws3).trans p3; have s4 := (HB4.cell (p := ⟨w.heap.size, 4, none⟩) hws3).trans p4; have hs4 := HB4.size; obtain ⟨ad4, cap4, rfl⟩ := hO4.len; rw [HTk.out] at hO4 ⊢) | ((go_loud (refine step_appA (by rfl) (.tmp 40) (.tmp 42) 34 (by rfl) 29 Tryd.underlying34 (by rfl) infoAsset w3.heap.size (.slice ad4 k cap4) (L.take k) [(a1, a2, a3, a4, a5)] (by rfl) (by first | exact OwnA.alloc (ownsRow_base_a hO4 (by first | exact Nat.le_refl _ | simp)) _ | exact ownsRow_base_a hO4 (by first | exact Nat.le_refl _ | simp | (simp; omega))) ⟨_, 0, none⟩ 1 1 (by rfl) (by rfl) (by first | exact fun z u hz => cells_fresh _ _ _ z u hz | exact fun z u hz => (hb4.cell (by simp [Addr.add]; split <;> simp)).trans (cells_fresh _ _ _ z u hz)) (by have := HTL.out; simp only [List.length_singleton]; omega) (by first | exact hs4 | (simp; omega)) ?_)); intro v5 w6 hO6 hk6) | fail)
          all_goals
            have HB6 : Below w3.heap.size w3 w6 := Below.trans (by (repeat (first | exact Below.refl _ _ | assumption | refine Below.drew ?_ | refine below_many ?_ _ | refine Below.alloc ?_ (by first | (simp; done) | (simp; omega) | omega) _ | refine Below.setCell ?_ (by first | (simp; done) | (simp; omega) | omega) _))) (hk6.below (by first | exact hs4 | (simp; omega)) (fun z hz e => by have h1 := (hO4.block z e).1; first | (simp at h1; omega) | omega))
            have HO6 := Lib.hid hO6
            have HBw := Lib.hid HB6
            have hs6 := HB6.size
            have hl6 : (L.take k ++ [(a1, a2, a3, a4, a5)]).length = k + 1 := by rw [List.length_append, HTk.out]; rfl
            obtain ⟨ad5, cap5, hv5⟩ := HO6.out.len
            rw [hl6] at hv5
            subst hv5
            clear hl6
            have HRc : Hid (∀ j u, (asCells (L.drop k))[j]? = some u → w6.cell? ⟨g, k * 5 + j, none⟩ = some u) := rda_drop (HR3.out.below HB6)
            clear hO6 HB6 hO4 hb4 HB4 hk6 s0 s1 s2 s3 s4 p0 p1 p2 p3 p4 HRT
            go_wp2_with (at_builtin; go_loud (refine wpList_appA_any rfl _ _ 34 rfl 29 Tryd.underlying34 (by rfl) infoAsset w3.heap.size _ ((L.take k) ++ [(a1, a2, a3, a4, a5)]) (L.drop k) rfl HO6.out _ _ _ rfl (by simp; done) (fun h => by split at h <;> cases h) (fun ad _ j u hu => by rw [List.drop_of_length_le (by omega)] at hu; simp [asCells] at hu) (by have := HTL.out; simp at this ⊢; omega) hs6 ?_))
            all_goals
              intro v7 w8 hO8 hk8
              have HB8 : Hid (Below w3.heap.size w3 w8) := HBw.out.trans (hk8.below hs6 (fun z hz e => by have h1 := (HO6.out.block z e).1; omega))
              have HO8 : Hid (OwnA 29 w3.heap.size w8 v7 (addA L (a1, a2, a3, a4, a5))) := by unfold Hid; rw [HAdd.out]; simpa using hO8
              clear hO8 hk8 HO6 HBw
              go_wp2_with fail
              go_ret2
              refine ⟨_, rfl, ?_, (HB1.out.trans (HB3.out.mono (Nat.le_of_lt hs1))).trans (HB8.out.mono (Nat.le_of_lt hws3))⟩
              exact ownsRow_base_a HO8.out (Nat.le_of_lt hws3)
      · have hkl : k < L.length := (List.getElem?_eq_some_iff.1 hx).1
        obtain ⟨g, cap', hv, hg, _, _, d0, d1, d2, d3, d4⟩ := (HR1.out.below hBk.out).at hx
        simp only [Value.slice.injEq, true_and] at hv
        obtain ⟨rfl, rfl⟩ := hv
        obtain ⟨x1, x2, x3, x4, x5⟩ := x
        try dsimp only at d0 hxa
        clear hx d1 d2 d3 d4 hB9
        go_wp2_with fail
        go_quiet (fail)
        go_wp2_with fail
        obtain ⟨w3, hw3⟩ : ∃ w3, w3 = wr.drewN nq := ⟨_, rfl⟩
        have HB3 : Hid (Below w1.heap.size w1 w3) := by rw [hw3]; exact HB9.out nq
        rw [← hw3]
        clear hw3 HB9 r0 hsk hBk
        have hs3 := HB3.out.size
        have p0 := (HB3.out.cell (p := ⟨w.heap.size, 0, none⟩) hs1).trans q0
        have p1 := (HB3.out.cell (p := ⟨w.heap.size, 1, none⟩) hs1).trans q1
        have p2 := (HB3.out.cell (p := ⟨w.heap.size, 2, none⟩) hs1).trans q2
        have p3 := (HB3.out.cell (p := ⟨w.heap.size, 3, none⟩) hs1).trans q3
        have p4 := (HB3.out.cell (p := ⟨w.heap.size, 4, none⟩) hs1).trans q4
        have HR3 := Lib.hid (HR1.out.below HB3.out)
        have HRT : Hid (∀ wq, Below w3.heap.size w3 wq → RdA wq (.slice (some ⟨g, 0, none⟩) k cap) (L.take k)) := fun wq hq => rda_take (HR3.out.below hq) hal
        have HTL : Hid ((L.take k).length ≤ 1000) := by unfold Hid; rw [List.length_take]; omega
        have HTk : Hid ((L.take k).length = k) := by unfold Hid; rw [List.length_take]; omega
        clear q0 q1 q2 q3 q4
        have hws3 : w.heap.size < w3.heap.size := Nat.lt_of_lt_of_le hs1 hs3
        go_region_law (first | (go_simp; go_at_call 74; refine (assets_calls (HRT.out _ (by (repeat (first | exact Below.refl _ _ | assumption | refine Below.drew ?_ | refine below_many ?_ _ | refine Below.alloc ?_ (by first | (simp; done) | (simp; omega) | omega) _ | refine Below.setCell ?_ (by first | (simp; done) | (simp; omega) | omega) _)))) HTL.out).mono ?_; rintro e w4 ⟨v4, rfl, hO4, hb4⟩; have HB4 : Below w3.heap.size w3 w4 := Below.trans (by (repeat (first | exact Below.refl _ _ | assumption | refine Below.drew ?_ | refine below_many ?_ _ | refine Below.alloc ?_ (by first | (simp; done) | (simp; omega) | omega) _ | refine Below.setCell ?_ (by first | (simp; done) | (simp; omega) | omega) _))) (hb4.mono (by first | exact Nat.le_refl _ | (simp; done) | (simp; omega))); have s0 := (HB4.cell (p := ⟨w.heap.size, 0, none⟩) hws3).trans p0; have s1 := (HB4.cell (p := ⟨w.heap.size, 1, none⟩) hws3).trans p1; have s2 := (HB4.cell (p := ⟨w.heap.size, 2, none⟩) hws3).trans p2; have s3 := (HB4.cell (p := ⟨w.heap.size, 3, none⟩) hws3).trans p3; have s4 := (HB4.cell (p := ⟨w.heap.size, 4, none⟩) hws3).trans p4; have hs4 := HB4.size; obtain ⟨ad4, cap4, rfl⟩ := hO4.len; rw [HTk.out] at hO4 ⊢) | ((go_loud (refine step_appA (by rfl) (.tmp 40) (.tmp 42) 34 (by rfl) 29 Tryd.underlying34 (by rfl) infoAsset w3.heap.size (.slice ad4 k cap4) (L.take k) [(a1, a2, a3, a4, a5)] (by rfl) (by first | exact OwnA.alloc (ownsRow_base_a hO4 (by first | exact Nat.le_refl _ | simp)) _ | exact ownsRow_base_a hO4 (by first | exact Nat.le_refl _ | simp | (simp; omega))) ⟨_, 0, none⟩ 1 1 (by rfl) (by rfl) (by first | exact fun z u hz => cells_fresh _ _ _ z u hz | exact fun z u hz => (hb4.cell (by simp [Addr.add]; split <;> simp)).trans (cells_fresh _ _ _ z u hz)) (by have := HTL.out; simp only [List.length_singleton]; omega) (by first | exact hs4 | (simp; omega)) ?_)); intro v5 w6 hO6 hk6) | fail)
        all_goals
          have HB6 : Below w3.heap.size w3 w6 := Below.trans (by (repeat (first | exact Below.refl _ _ | assumption | refine Below.drew ?_ | refine below_many ?_ _ | refine Below.alloc ?_ (by first | (simp; done) | (simp; omega) | omega) _ | refine Below.setCell ?_ (by first | (simp; done) | (simp; omega) | omega) _))) (hk6.below (by first | exact hs4 | (simp; omega)) (fun z hz e => by have h1 := (hO4.block z e).1; first | (simp at h1; omega) | omega))
          have HO6 := Lib.hid hO6
          have HBw := Lib.hid HB6
          have hs6 := HB6.size
          have hl6 : (L.take k ++ [(a1, a2, a3, a4, a5)]).length = k + 1 := by rw [List.length_append, HTk.out]; rfl
          obtain ⟨ad5, cap5, hv5⟩ := HO6.out.len
          rw [hl6] at hv5
          subst hv5
          clear hl6
          have HRc : Hid (∀ j u, (asCells (L.drop k))[j]? = some u → w6.cell? ⟨g, k * 5 + j, none⟩ = some u) := rda_drop (HR3.out.below HB6)
          clear hO6 HB6 hO4 hb4 HB4 hk6 s0 s1 s2 s3 s4 p0 p1 p2 p3 p4 HRT
          go_wp2_with (at_builtin; go_loud (refine wpList_appA_any rfl _ _ 34 rfl 29 Tryd.underlying34 (by rfl) infoAsset w3.heap.size _ ((L.take k) ++ [(a1, a2, a3, a4, a5)]) (L.drop k) rfl HO6.out _ _ _ rfl (by simp; done) (fun h => by first | cases h | (split at h <;> cases h)) (fun ad h j u hu => by simp only [Option.some.injEq] at h; subst h; rw [Addr.add_lit]; exact HRc.out j u hu) (by have := HTL.out; simp at this ⊢; omega) hs6 ?_))
          all_goals
            intro v7 w8 hO8 hk8
            have HB8 : Hid (Below w3.heap.size w3 w8) := HBw.out.trans (hk8.below hs6 (fun z hz e => by have h1 := (HO6.out.block z e).1; omega))
            have HO8 : Hid (OwnA 29 w3.heap.size w8 v7 (addA L (a1, a2, a3, a4, a5))) := by unfold Hid; rw [HAdd.out]; simpa using hO8
            clear hO8 hk8 HO6 HBw
            go_wp2_with fail
            go_ret2
            refine ⟨_, rfl, ?_, (HB1.out.trans (HB3.out.mono (Nat.le_of_lt hs1))).trans (HB8.out.mono (Nat.le_of_lt hws3))⟩
            exact ownsRow_base_a HO8.out (Nat.le_of_lt hws3)
end Go.Proofs.YtfecgcdceegdlaaDoor
