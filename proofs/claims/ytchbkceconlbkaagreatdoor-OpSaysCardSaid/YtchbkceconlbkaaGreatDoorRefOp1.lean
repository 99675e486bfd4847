/- pledgeref26: Uses, Name, field, has. (Written by gen_refop.py.) -/
import Derived.Test.YtchbkceconlbkaaGreatDoorOpText
import Derived.Deep.RegionHeld3
import Derived.Deep.DeepCutAuto
namespace Go.Proofs.YtchbkceconlbkaaGreatDoor
open Go Go.RowKit
set_option linter.unusedSimpArgs false
set_option linter.unusedVariables false

/-- The letters that a kind uses; none of no kind. -/
def usesK (k : Int) : ByteArray := if isK k then usesB k.toNat else ⟨#[]⟩
set_option maxHeartbeats 4000000 in
theorem refUses_calls (k : Int) (w : World) : Calls Tryz.prog 21 #[.int .i64 k] w fun e w' => e = .returned (.string (usesK k)) ∧ w = w' := by
  by_cases h1 : k = 1
  · subst h1
    rw [show usesK 1 = usesB 1 from rfl]
    unfold usesB
    go_enter Tryz.func21, Tryz.ntmps21
    go_wp2_with fail
    go_ret
    exact ⟨rfl, rfl⟩
  by_cases h2 : k = 2
  · subst h2
    rw [show usesK 2 = usesB 2 from rfl]
    unfold usesB
    go_enter Tryz.func21, Tryz.ntmps21
    go_wp2_with fail
    go_ret
    exact ⟨rfl, rfl⟩
  by_cases h3 : k = 3
  · subst h3
    rw [show usesK 3 = usesB 3 from rfl]
    unfold usesB
    go_enter Tryz.func21, Tryz.ntmps21
    go_wp2_with fail
    go_ret
    exact ⟨rfl, rfl⟩
  by_cases h4 : k = 4
  · subst h4
    rw [show usesK 4 = usesB 4 from rfl]
    unfold usesB
    go_enter Tryz.func21, Tryz.ntmps21
    go_wp2_with fail
    go_ret
    exact ⟨rfl, rfl⟩
  by_cases h5 : k = 5
  · subst h5
    rw [show usesK 5 = usesB 5 from rfl]
    unfold usesB
    go_enter Tryz.func21, Tryz.ntmps21
    go_wp2_with fail
    go_ret
    exact ⟨rfl, rfl⟩
  by_cases h6 : k = 6
  · subst h6
    rw [show usesK 6 = usesB 6 from rfl]
    unfold usesB
    go_enter Tryz.func21, Tryz.ntmps21
    go_wp2_with fail
    go_ret
    exact ⟨rfl, rfl⟩
  by_cases h7 : k = 7
  · subst h7
    rw [show usesK 7 = usesB 7 from rfl]
    unfold usesB
    go_enter Tryz.func21, Tryz.ntmps21
    go_wp2_with fail
    go_ret
    exact ⟨rfl, rfl⟩
  by_cases h8 : k = 8
  · subst h8
    rw [show usesK 8 = usesB 8 from rfl]
    unfold usesB
    go_enter Tryz.func21, Tryz.ntmps21
    go_wp2_with fail
    go_ret
    exact ⟨rfl, rfl⟩
  by_cases h9 : k = 9
  · subst h9
    rw [show usesK 9 = usesB 9 from rfl]
    unfold usesB
    go_enter Tryz.func21, Tryz.ntmps21
    go_wp2_with fail
    go_ret
    exact ⟨rfl, rfl⟩
  by_cases h10 : k = 10
  · subst h10
    rw [show usesK 10 = usesB 10 from rfl]
    unfold usesB
    go_enter Tryz.func21, Tryz.ntmps21
    go_wp2_with fail
    go_ret
    exact ⟨rfl, rfl⟩
  by_cases h11 : k = 11
  · subst h11
    rw [show usesK 11 = usesB 11 from rfl]
    unfold usesB
    go_enter Tryz.func21, Tryz.ntmps21
    go_wp2_with fail
    go_ret
    exact ⟨rfl, rfl⟩
  by_cases h12 : k = 12
  · subst h12
    rw [show usesK 12 = usesB 12 from rfl]
    unfold usesB
    go_enter Tryz.func21, Tryz.ntmps21
    go_wp2_with fail
    go_ret
    exact ⟨rfl, rfl⟩
  by_cases h13 : k = 13
  · subst h13
    rw [show usesK 13 = usesB 13 from rfl]
    unfold usesB
    go_enter Tryz.func21, Tryz.ntmps21
    go_wp2_with fail
    go_ret
    exact ⟨rfl, rfl⟩
  by_cases h14 : k = 14
  · subst h14
    rw [show usesK 14 = usesB 14 from rfl]
    unfold usesB
    go_enter Tryz.func21, Tryz.ntmps21
    go_wp2_with fail
    go_ret
    exact ⟨rfl, rfl⟩
  by_cases h15 : k = 15
  · subst h15
    rw [show usesK 15 = usesB 15 from rfl]
    unfold usesB
    go_enter Tryz.func21, Tryz.ntmps21
    go_wp2_with fail
    go_ret
    exact ⟨rfl, rfl⟩
  by_cases h16 : k = 16
  · subst h16
    rw [show usesK 16 = usesB 16 from rfl]
    unfold usesB
    go_enter Tryz.func21, Tryz.ntmps21
    go_wp2_with fail
    go_ret
    exact ⟨rfl, rfl⟩
  have hu : usesK k = ⟨#[]⟩ := by
    unfold usesK
    rw [if_neg]
    unfold isK
    rw [Bool.and_eq_true, decide_eq_true_eq, decide_eq_true_eq]
    omega
  rw [hu]
  have q1 : (k == 1) = false := by simpa using h1
  have q2 : (k == 2) = false := by simpa using h2
  have q3 : (k == 3) = false := by simpa using h3
  have q4 : (k == 4) = false := by simpa using h4
  have q5 : (k == 5) = false := by simpa using h5
  have q6 : (k == 6) = false := by simpa using h6
  have q7 : (k == 7) = false := by simpa using h7
  have q8 : (k == 8) = false := by simpa using h8
  have q9 : (k == 9) = false := by simpa using h9
  have q10 : (k == 10) = false := by simpa using h10
  have q11 : (k == 11) = false := by simpa using h11
  have q12 : (k == 12) = false := by simpa using h12
  have q13 : (k == 13) = false := by simpa using h13
  have q14 : (k == 14) = false := by simpa using h14
  have q15 : (k == 15) = false := by simpa using h15
  have q16 : (k == 16) = false := by simpa using h16
  clear hu h1 h2 h3 h4 h5 h6 h7 h8 h9 h10 h11 h12 h13 h14 h15 h16
  go_enter Tryz.func21, Tryz.ntmps21
  go_wp2_with fail
  go_ret
  exact ⟨rfl, rfl⟩

theorem row17_get : ∀ j, j < 17 → (#[.string ⟨#[]⟩, .string ⟨#[106, 111, 105, 110]⟩, .string ⟨#[97, 115, 115, 101, 116]⟩, .string ⟨#[112, 114, 105, 99, 101]⟩, .string ⟨#[114, 97, 116, 101]⟩, .string ⟨#[99, 117, 116]⟩, .string ⟨#[102, 120, 99, 117, 116]⟩, .string ⟨#[101, 108, 105, 103]⟩, .string ⟨#[99, 97, 112]⟩, .string ⟨#[110, 101, 101, 100]⟩, .string ⟨#[100, 101, 112, 111, 115, 105, 116]⟩, .string ⟨#[119, 105, 116, 104, 100, 114, 97, 119]⟩, .string ⟨#[101, 120, 99, 104, 97, 110, 103, 101]⟩, .string ⟨#[116, 105, 99, 107]⟩, .string ⟨#[114, 101, 98, 97, 116, 101]⟩, .string ⟨#[115, 99, 101, 110, 101]⟩, .string ⟨#[102, 117, 110, 100]⟩] : Array Value)[j]? = some (.string (nameB (j : Int))) := by
  intro j hj
  have : j = 0 ∨ j = 1 ∨ j = 2 ∨ j = 3 ∨ j = 4 ∨ j = 5 ∨ j = 6 ∨ j = 7 ∨ j = 8 ∨ j = 9 ∨ j = 10 ∨ j = 11 ∨ j = 12 ∨ j = 13 ∨ j = 14 ∨ j = 15 ∨ j = 16 := by omega
  rcases this with rfl | rfl | rfl | rfl | rfl | rfl | rfl | rfl | rfl | rfl | rfl | rfl | rfl | rfl | rfl | rfl | rfl <;> rfl
set_option maxHeartbeats 4000000 in
theorem refName_calls (k : Int) (w : World) : Calls Tryz.prog 10 #[.int .i64 k] w fun e w' => e = .returned (.string (nameB k)) ∧ Below w.heap.size w w' := by
  have hb : Below w.heap.size w (w.alloc (Obj.cells #[.string ⟨#[]⟩, .string ⟨#[106, 111, 105, 110]⟩, .string ⟨#[97, 115, 115, 101, 116]⟩, .string ⟨#[112, 114, 105, 99, 101]⟩, .string ⟨#[114, 97, 116, 101]⟩, .string ⟨#[99, 117, 116]⟩, .string ⟨#[102, 120, 99, 117, 116]⟩, .string ⟨#[101, 108, 105, 103]⟩, .string ⟨#[99, 97, 112]⟩, .string ⟨#[110, 101, 101, 100]⟩, .string ⟨#[100, 101, 112, 111, 115, 105, 116]⟩, .string ⟨#[119, 105, 116, 104, 100, 114, 97, 119]⟩, .string ⟨#[101, 120, 99, 104, 97, 110, 103, 101]⟩, .string ⟨#[116, 105, 99, 107]⟩, .string ⟨#[114, 101, 98, 97, 116, 101]⟩, .string ⟨#[115, 99, 101, 110, 101]⟩, .string ⟨#[102, 117, 110, 100]⟩] 9)) := (Below.refl _ _).alloc (Nat.le_refl _) _
  have HB := Lib.hid hb
  have hs : w.heap.size < (w.alloc (Obj.cells #[.string ⟨#[]⟩, .string ⟨#[106, 111, 105, 110]⟩, .string ⟨#[97, 115, 115, 101, 116]⟩, .string ⟨#[112, 114, 105, 99, 101]⟩, .string ⟨#[114, 97, 116, 101]⟩, .string ⟨#[99, 117, 116]⟩, .string ⟨#[102, 120, 99, 117, 116]⟩, .string ⟨#[101, 108, 105, 103]⟩, .string ⟨#[99, 97, 112]⟩, .string ⟨#[110, 101, 101, 100]⟩, .string ⟨#[100, 101, 112, 111, 115, 105, 116]⟩, .string ⟨#[119, 105, 116, 104, 100, 114, 97, 119]⟩, .string ⟨#[101, 120, 99, 104, 97, 110, 103, 101]⟩, .string ⟨#[116, 105, 99, 107]⟩, .string ⟨#[114, 101, 98, 97, 116, 101]⟩, .string ⟨#[115, 99, 101, 110, 101]⟩, .string ⟨#[102, 117, 110, 100]⟩] 9)).heap.size := by simp
  by_cases h0 : k < 0
  · have hn : nameB k = ⟨#[]⟩ := by
      unfold nameB; rw [if_neg]; unfold isK; rw [Bool.and_eq_true, decide_eq_true_eq, decide_eq_true_eq]; omega
    rw [hn]
    have d0 : decide (k < 0) = true := decide_eq_true h0
    clear hn hb hs
    go_enter Tryz.func10, Tryz.ntmps10
    go_wp2_with fail
    go_ret
    exact ⟨rfl, HB.out⟩
  · have d0 : decide (k < 0) = false := decide_eq_false h0
    by_cases h1 : 17 ≤ k
    · have hn : nameB k = ⟨#[]⟩ := by
        unfold nameB; rw [if_neg]; unfold isK; rw [Bool.and_eq_true, decide_eq_true_eq, decide_eq_true_eq]; omega
      rw [hn]
      have d1 : decide (k ≥ 17) = true := decide_eq_true h1
      clear hn hb hs
      go_enter Tryz.func10, Tryz.ntmps10
      go_wp2_with fail
      go_ret
      exact ⟨rfl, HB.out⟩
    · have d1 : decide (k ≥ 17) = false := decide_eq_false h1
      have hc : (w.alloc (Obj.cells #[.string ⟨#[]⟩, .string ⟨#[106, 111, 105, 110]⟩, .string ⟨#[97, 115, 115, 101, 116]⟩, .string ⟨#[112, 114, 105, 99, 101]⟩, .string ⟨#[114, 97, 116, 101]⟩, .string ⟨#[99, 117, 116]⟩, .string ⟨#[102, 120, 99, 117, 116]⟩, .string ⟨#[101, 108, 105, 103]⟩, .string ⟨#[99, 97, 112]⟩, .string ⟨#[110, 101, 101, 100]⟩, .string ⟨#[100, 101, 112, 111, 115, 105, 116]⟩, .string ⟨#[119, 105, 116, 104, 100, 114, 97, 119]⟩, .string ⟨#[101, 120, 99, 104, 97, 110, 103, 101]⟩, .string ⟨#[116, 105, 99, 107]⟩, .string ⟨#[114, 101, 98, 97, 116, 101]⟩, .string ⟨#[115, 99, 101, 110, 101]⟩, .string ⟨#[102, 117, 110, 100]⟩] 9)).cell? ⟨w.heap.size, k.toNat, none⟩ = some (.string (nameB k)) := by
        have h := row17_get k.toNat (by omega)
        rw [show ((k.toNat : Nat) : Int) = k by omega] at h
        simp only [World.cell?, World.alloc, Array.getElem?_push, if_true]
        simpa using h
      have hk0 : 0 ≤ k := by omega
      have hk1 : k < 17 := by omega
      clear hb
      generalize nameB k = nb at hc ⊢
      go_enter Tryz.func10, Tryz.ntmps10
      go_upto_region 2 with fail
      generalize w.alloc (Obj.cells #[.string ⟨#[]⟩, .string ⟨#[106, 111, 105, 110]⟩, .string ⟨#[97, 115, 115, 101, 116]⟩, .string ⟨#[112, 114, 105, 99, 101]⟩, .string ⟨#[114, 97, 116, 101]⟩, .string ⟨#[99, 117, 116]⟩, .string ⟨#[102, 120, 99, 117, 116]⟩, .string ⟨#[101, 108, 105, 103]⟩, .string ⟨#[99, 97, 112]⟩, .string ⟨#[110, 101, 101, 100]⟩, .string ⟨#[100, 101, 112, 111, 115, 105, 116]⟩, .string ⟨#[119, 105, 116, 104, 100, 114, 97, 119]⟩, .string ⟨#[101, 120, 99, 104, 97, 110, 103, 101]⟩, .string ⟨#[116, 105, 99, 107]⟩, .string ⟨#[114, 101, 98, 97, 116, 101]⟩, .string ⟨#[115, 99, 101, 110, 101]⟩, .string ⟨#[102, 117, 110, 100]⟩] 9) = W1 at *
      go_wp2_with fail
      go_ret
      exact ⟨rfl, HB.out⟩

set_option maxHeartbeats 4000000 in
theorem refField_calls (id k a b c d n m : Int) {j : Nat} (hj : j < 6) (w : World) :
    Calls Tryz.prog 22 #[opV id k a b c d n m, .int .u8 ((letterAt j).toNat : Int)] w fun e w' => e = .returned (.int .i64 (fieldAt a b c d n m j)) ∧ Below w.heap.size w w' := by
  have HB : Hid (Below w.heap.size w (w.alloc (Obj.cells #[.int .i64 id, .int .i64 k, .int .i64 a, .int .i64 b, .int .i64 c, .int .i64 d, .int .i64 n, .int .i64 m] 23))) := (Below.refl _ _).alloc (Nat.le_refl _) _
  have : j = 0 ∨ j = 1 ∨ j = 2 ∨ j = 3 ∨ j = 4 ∨ j = 5 := by omega
  rcases this with rfl | rfl | rfl | rfl | rfl | rfl
  · show Calls _ _ #[_, .int .u8 65] _ _
    go_enter Tryz.func22, Tryz.ntmps22
    go_wp2_with fail
    go_ret
    exact ⟨rfl, HB.out⟩
  · show Calls _ _ #[_, .int .u8 66] _ _
    go_enter Tryz.func22, Tryz.ntmps22
    go_wp2_with fail
    go_ret
    exact ⟨rfl, HB.out⟩
  · show Calls _ _ #[_, .int .u8 67] _ _
    go_enter Tryz.func22, Tryz.ntmps22
    go_wp2_with fail
    go_ret
    exact ⟨rfl, HB.out⟩
  · show Calls _ _ #[_, .int .u8 68] _ _
    go_enter Tryz.func22, Tryz.ntmps22
    go_wp2_with fail
    go_ret
    exact ⟨rfl, HB.out⟩
  · show Calls _ _ #[_, .int .u8 78] _ _
    go_enter Tryz.func22, Tryz.ntmps22
    go_wp2_with fail
    go_ret
    exact ⟨rfl, HB.out⟩
  · show Calls _ _ #[_, .int .u8 77] _ _
    go_enter Tryz.func22, Tryz.ntmps22
    go_wp2_with fail
    go_ret
    exact ⟨rfl, HB.out⟩

set_option maxHeartbeats 4000000 in
theorem refHas_calls (u : ByteArray) (c : UInt8) (hu : u.size ≤ 1000) (w : World) :
    Calls Tryz.prog 23 #[.string u, .int .u8 (c.toNat : Int)] w fun e w' => e = .returned (.bool (u.data.toList.any (· == c))) ∧ w = w' := by
  obtain ⟨r, hr⟩ : ∃ r, r = u.data.toList.any (· == c) := ⟨_, rfl⟩
  rw [← hr]
  have HR := Lib.hid hr
  clear hr
  go_enter Tryz.func23, Tryz.ntmps23
  go_wp2_with fail
  go_loop [5] (fun i => ∃ q : Nat, q ≤ u.size ∧ i = .int .i64 q ∧ Hid ((u.data.toList.take q).any (· == c) = false)) (fun i => u.size - (intOf i).toNat)
  case atStart => exact ⟨0, by omega, rfl, rfl⟩
  case round =>
    obtain ⟨q, hq, rfl, hN⟩ := hrel
    by_cases hqu : q < u.size
    · have hql : q < u.data.toList.length := hqu
      have hi0 : (0 : Int) ≤ (q : Int) := by omega
      have hi1 : (q : Int) < (u.size : Int) := by omega
      have hget : u.data.toList[q]'hql = u[q]'hqu := rfl
      by_cases hc : u[q]'hqu = c
      · have hrt : r = true := by
          rw [HR.out, List.any_eq_true]
          exact ⟨u[q]'hqu, by rw [← hget]; exact List.getElem_mem _, by simp [hc]⟩
        subst hrt
        have hcc : (((u[q]'hqu).toNat : Int) == (c.toNat : Int)) = true := by rw [hc]; simp
        clear hget
        go_wp2_with fail
        go_ret
        exact ⟨rfl, rfl⟩
      · have hcc : (((u[q]'hqu).toNat : Int) == (c.toNat : Int)) = false := by
          rw [beq_eq_false_iff_ne]
          intro h
          exact hc (UInt8.toNat_inj.1 (by omega))
        have hN2 : Hid ((u.data.toList.take (q + 1)).any (· == c) = false) := by
          unfold Hid
          rw [List.take_add_one, List.getElem?_eq_getElem hql, List.any_append, hN.out]
          simp only [Option.toList_some, List.any_cons, List.any_nil, Bool.or_false, Bool.false_or, hget]
          simpa using hc
        clear hget hc
        go_wp2_with fail
        go_round
        case rel => exact ⟨q + 1, by omega, by go_num, hN2⟩
        case measure => simp [intOf]; omega
    · obtain rfl : q = u.size := by omega
      have hrf : r = false := by
        rw [HR.out]
        have h := hN.out
        rw [List.take_of_length_le (Nat.le_refl u.size)] at h
        exact h
      subst hrf
      go_wp2_with fail
      go_ret
      exact ⟨rfl, rfl⟩
end Go.Proofs.YtchbkceconlbkaaGreatDoor
