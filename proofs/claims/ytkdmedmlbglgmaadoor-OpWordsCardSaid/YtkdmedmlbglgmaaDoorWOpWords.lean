/- The walk of pledgelaw25.OpWords: it returns true, and writes nothing that was there. (Written by gen_words.py.) -/
import Derived.Test.YtkdmedmlbglgmaaDoorWordTab
import Derived.Deep.DeepCutAuto
namespace Go.Proofs.YtkdmedmlbglgmaaDoor
open Go Go.RowKit
set_option linter.unusedSimpArgs false
set_option linter.unusedVariables false

/-- Parse of a row of the statement's words, whose error is of number c. -/
theorem parse_tab {B : Nat} {p : Nat → Addr} {w : World} (hE : Errs (List.range 21) B p w) (hT : ParW B w) {tb m : Nat} {L : Nat → List ByteArray} {c : Nat} (hL : Tab w tb m L) {i : Nat} (hi : i < m) (hc : parseC (L i) = c + 101) (hs : ∀ j, j < (L i).length → ((L i).getD j ⟨#[]⟩).size ≤ 20) (hl : (L i).length ≤ 5) :
    ∃ a n, w.cell? ⟨tb, i, none⟩ = some (.slice a n n) ∧ Calls Tryd.prog 22 #[.slice a n n] w fun e w' => e = .returned (.tuple #[opV 0 0 0 0 0 0 0 0, .iface 215 (.pointer (some (p c)))]) ∧ Below w.heap.size w w' := by
  obtain ⟨a, h1, h2⟩ := hL.2 i hi
  refine ⟨a, _, h1, (parse_calls hE hT a _ (L i) h2 (fun j hj => by have := hs j hj; omega) (by omega)).mono ?_⟩
  rintro e w' ⟨rfl, hb⟩
  refine ⟨?_, hb⟩
  unfold parseO
  rw [hc]
  rfl
theorem is_code {B : Nat} {p : Nat → Addr} {w : World} (hE : Errs (List.range 21) B p w) {k : Nat} (hk : k < 21) {c : Int} (hc : c = 101 + (k : Int)) : Calls Tryd.prog 12 #[.iface 215 (.pointer (some (p k))), .int .i64 c] w fun e w' => e = .returned (.bool true) ∧ Below w.heap.size w w' := by
  subst hc
  refine (is_ev hE hk _).mono ?_
  rintro e w' ⟨rfl, hb⟩
  exact ⟨by simp, hb⟩
theorem nameB_cases {a : Int} (h0 : 0 ≤ a) (h1 : a < 18) : (a = 0 ∧ nameB a = ⟨#[]⟩) ∨ (a = 17 ∧ nameB a = ⟨#[]⟩) ∨ (1 ≤ a ∧ a ≤ 16 ∧ (nameB a).toList ≠ [] ∧ ∀ b, 0 ≤ b → b < 18 → a ≠ b → (nameB a).toList ≠ (nameB b).toList) := by
  by_cases e0 : a = 0
  · subst e0; exact .inl ⟨rfl, rfl⟩
  by_cases e1 : a = 17
  · subst e1; exact .inr (.inl ⟨rfl, rfl⟩)
  have key : ∀ x : Int, 1 ≤ x → x ≤ 16 → (nameB x).toList = (wordB ((x.toNat - 1) + 1)).data.toList := fun x h1 h2 => by
    have hk : isK x = true := by simp [isK, h1, h2]
    rw [ByteArray.toList_eq, show nameB x = wordB x.toNat by simp [nameB, hk], show x.toNat - 1 + 1 = x.toNat by omega]
  refine .inr (.inr ⟨by omega, by omega, ?_, fun b hb0 hb1 hne => ?_⟩)
  · rw [key a (by omega) (by omega)]
    exact words_some _ (by omega)
  · rw [key a (by omega) (by omega)]
    by_cases f0 : b = 0 ∨ b = 17
    · have : (nameB b).toList = [] := by rcases f0 with rfl | rfl <;> (rw [ByteArray.toList_eq]; rfl)
      rw [this]
      exact words_some _ (by omega)
    · rw [key b (by omega) (by omega)]
      intro h
      have := words_unlike _ (by omega) _ (by omega) h
      omega

set_option maxHeartbeats 16000000 in
set_option maxRecDepth 100000 in
theorem walk_OpWords {p : Nat → Addr} {w : World} (hE : Errs (List.range 21) w.heap.size p w) (hT : ParW w.heap.size w) (k a b : Int) (l1 : -9223372036854775808 ≤ k) (u1 : k ≤ 9223372036854775807) (l2 : -9223372036854775808 ≤ a) (u2 : a ≤ 9223372036854775807) (l3 : -9223372036854775808 ≤ b) (u3 : b ≤ 9223372036854775807) :
    Calls Tryd.prog 6 #[.int .i64 k, .int .i64 a, .int .i64 b] w fun e w' => e = .returned (.bool true) ∧ Below w.heap.size w w' := by
  have HE := Lib.hid hE; clear hE
  have HT := Lib.hid hT; clear hT
  obtain ⟨i6, hi6, he6⟩ : ∃ i : Nat, i < 6 ∧ k % 6 = (i : Int) := ⟨(k % 6).toNat, by omega, by omega⟩
  have HN6 := Lib.hid (number_calls k 6 (by decide) (by decide))
  rw [he6] at HN6
  obtain ⟨i5, hi5, he5⟩ : ∃ i : Nat, i < 5 ∧ k % 5 = (i : Int) := ⟨(k % 5).toNat, by omega, by omega⟩
  have HN5 := Lib.hid (number_calls k 5 (by decide) (by decide))
  rw [he5] at HN5
  obtain ⟨i4, hi4, he4⟩ : ∃ i : Nat, i < 4 ∧ k % 4 = (i : Int) := ⟨(k % 4).toNat, by omega, by omega⟩
  have HN4 := Lib.hid (number_calls k 4 (by decide) (by decide))
  rw [he4] at HN4
  have hA0 := Int.emod_nonneg a (show (18 : Int) ≠ 0 by decide)
  have hA1 := Int.emod_lt_of_pos a (show (0 : Int) < 18 by decide)
  have hB0 := Int.emod_nonneg b (show (18 : Int) ≠ 0 by decide)
  have hB1 := Int.emod_lt_of_pos b (show (0 : Int) < 18 by decide)
  have HNa := Lib.hid (number_calls a 18 (by decide) (by decide))
  have HNb := Lib.hid (number_calls b 18 (by decide) (by decide))
  generalize hga : a % 18 = ra at hA0 hA1 HNa
  generalize hgb : b % 18 = rb at hB0 hB1 HNb
  clear l1 u1 l2 u2 l3 u3 hga hgb he6 he5 he4
  go_enter Tryd.func6, Tryd.ntmps6
  go_wp2_with fail
  refine (first25_calls HE.out HT.out.op).mono ?_
  rintro e w1 ⟨rfl, hb⟩
  have HB := Lib.hid hb
  have HE := Lib.hid (HE.out.below hb)
  have HT := Lib.hid (HT.out.on hb)
  clear hb
  go_upto_region 4 with fail
  go_cut [8] (fun v wx => v = .slice (some ⟨w1.heap.size + 5, 0, none⟩) 6 6 ∧ Below w1.heap.size w1 wx ∧ Tab wx (w1.heap.size + 5) 6 wordL)
  case first =>
    go_wp2_with fail
    go_meet
    refine ⟨rfl, ?_, tab_word w1⟩
    (repeat (first | exact Below.refl _ _ | assumption | refine Below.drew ?_ | refine below_many ?_ _ | refine Below.alloc ?_ (by first | (simp; done) | (simp; omega) | omega) _ | refine Below.setCell ?_ (by first | (simp; done) | (simp; omega) | omega) _))
  case rest =>
  obtain ⟨rfl, hb, hTP⟩ := hcut
  have HB := Lib.hid (bbase HB.out hb)
  have HE := Lib.hid (HE.out.below (hb.mono HE.out.size))
  have HT := Lib.hid (HT.out.on hb)
  have HP := Lib.hid hTP
  clear hb hTP
  generalize w1.heap.size + 5 = tP at *
  obtain ⟨w2, hww2⟩ : ∃ x, x = wc := ⟨_, rfl⟩
  subst hww2
  go_upto_region 5 with fail
  go_cut [9] (fun v wx => v = .slice (some ⟨w2.heap.size + 5, 0, none⟩) 5 5 ∧ Below w2.heap.size w2 wx ∧ Tab wx (w2.heap.size + 5) 5 numberL)
  case first =>
    go_wp2_with fail
    go_meet
    refine ⟨rfl, ?_, tab_number w2⟩
    (repeat (first | exact Below.refl _ _ | assumption | refine Below.drew ?_ | refine below_many ?_ _ | refine Below.alloc ?_ (by first | (simp; done) | (simp; omega) | omega) _ | refine Below.setCell ?_ (by first | (simp; done) | (simp; omega) | omega) _))
  case rest =>
  obtain ⟨rfl, hb, hTQ⟩ := hcut
  have HB := Lib.hid (bbase HB.out hb)
  have HE := Lib.hid (HE.out.below (hb.mono HE.out.size))
  have HT := Lib.hid (HT.out.on hb)
  have HP := Lib.hid (HP.out.below hb)
  have HQ := Lib.hid hTQ
  clear hb hTQ
  generalize w2.heap.size + 5 = tQ at *
  obtain ⟨w3, hww3⟩ : ∃ x, x = wc := ⟨_, rfl⟩
  subst hww3
  go_upto_region 6 with fail
  go_cut [10] (fun v wx => v = .slice (some ⟨w3.heap.size + 4, 0, none⟩) 4 4 ∧ Below w3.heap.size w3 wx ∧ Tab wx (w3.heap.size + 4) 4 rangL)
  case first =>
    go_wp2_with fail
    go_meet
    refine ⟨rfl, ?_, tab_rang w3⟩
    (repeat (first | exact Below.refl _ _ | assumption | refine Below.drew ?_ | refine below_many ?_ _ | refine Below.alloc ?_ (by first | (simp; done) | (simp; omega) | omega) _ | refine Below.setCell ?_ (by first | (simp; done) | (simp; omega) | omega) _))
  case rest =>
  obtain ⟨rfl, hb, hTS⟩ := hcut
  have HB := Lib.hid (bbase HB.out hb)
  have HE := Lib.hid (HE.out.below (hb.mono HE.out.size))
  have HT := Lib.hid (HT.out.on hb)
  have HP := Lib.hid (HP.out.below hb)
  have HQ := Lib.hid (HQ.out.below hb)
  have HS := Lib.hid hTS
  clear hb hTS
  generalize w3.heap.size + 4 = tS at *
  obtain ⟨w4, hww4⟩ : ∃ x, x = wc := ⟨_, rfl⟩
  subst hww4
  go_wp2_with fail
  refine (HN6.out _).mono ?_
  rintro e _ ⟨rfl, rfl⟩
  obtain ⟨av, nv, hcell, hcall⟩ := parse_tab HE.out HT.out HP.out hi6 (c := 17) (wordL_code _ hi6) (sizes_ok.1 _ hi6) (lens_ok.1 _)
  have hj0 : (0 : Int) ≤ (i6 : Int) := by omega
  have hj1 : (i6 : Int) < 6 := by omega
  have HCall := Lib.hid hcall
  clear hcall
  go_wp2_with fail
  refine HCall.out.mono ?_
  rintro e wp ⟨rfl, hb⟩
  have hal : Below wp.heap.size wp (wp.alloc (Obj.cells #[.int .i64 0, .int .i64 0, .int .i64 0, .int .i64 0, .int .i64 0, .int .i64 0, .int .i64 0, .int .i64 0] 61)) := (Below.refl _ _).alloc (Nat.le_refl _) _
  have hb := hb.trans (hal.mono hb.size)
  have HB := Lib.hid (bbase HB.out hb)
  have HE := Lib.hid (HE.out.below (hb.mono HE.out.size))
  have HT := Lib.hid (HT.out.on hb)
  have HQ := Lib.hid (HQ.out.below hb)
  have HS := Lib.hid (HS.out.below hb)

  clear hal hb hcell HCall hj0 hj1 HP
  go_wp2_with fail
  generalize wp.alloc (Obj.cells #[.int .i64 0, .int .i64 0, .int .i64 0, .int .i64 0, .int .i64 0, .int .i64 0, .int .i64 0, .int .i64 0] 61) = wx6 at *
  refine (HN5.out _).mono ?_
  rintro e _ ⟨rfl, rfl⟩
  obtain ⟨av, nv, hcell, hcall⟩ := parse_tab HE.out HT.out HQ.out hi5 (c := 18) (numberL_code _ hi5) (sizes_ok.2.1 _ hi5) (lens_ok.2.1 _)
  have hj0 : (0 : Int) ≤ (i5 : Int) := by omega
  have hj1 : (i5 : Int) < 5 := by omega
  have HCall := Lib.hid hcall
  clear hcall
  go_wp2_with fail
  refine HCall.out.mono ?_
  rintro e wp ⟨rfl, hb⟩
  have hal : Below wp.heap.size wp (wp.alloc (Obj.cells #[.int .i64 0, .int .i64 0, .int .i64 0, .int .i64 0, .int .i64 0, .int .i64 0, .int .i64 0, .int .i64 0] 61)) := (Below.refl _ _).alloc (Nat.le_refl _) _
  have hb := hb.trans (hal.mono hb.size)
  have HB := Lib.hid (bbase HB.out hb)
  have HE := Lib.hid (HE.out.below (hb.mono HE.out.size))
  have HT := Lib.hid (HT.out.on hb)
  have HS := Lib.hid (HS.out.below hb)

  clear hal hb hcell HCall hj0 hj1 HQ
  go_wp2_with fail
  generalize wp.alloc (Obj.cells #[.int .i64 0, .int .i64 0, .int .i64 0, .int .i64 0, .int .i64 0, .int .i64 0, .int .i64 0, .int .i64 0] 61) = wx5 at *
  refine (HN4.out _).mono ?_
  rintro e _ ⟨rfl, rfl⟩
  obtain ⟨av, nv, hcell, hcall⟩ := parse_tab HE.out HT.out HS.out hi4 (c := 2) (rangL_code _ hi4) (sizes_ok.2.2 _ hi4) (lens_ok.2.2 _)
  have hj0 : (0 : Int) ≤ (i4 : Int) := by omega
  have hj1 : (i4 : Int) < 4 := by omega
  have HCall := Lib.hid hcall
  clear hcall
  go_wp2_with fail
  refine HCall.out.mono ?_
  rintro e wp ⟨rfl, hb⟩
  have hal : Below wp.heap.size wp (wp.alloc (Obj.cells #[.int .i64 0, .int .i64 0, .int .i64 0, .int .i64 0, .int .i64 0, .int .i64 0, .int .i64 0, .int .i64 0] 61)) := (Below.refl _ _).alloc (Nat.le_refl _) _
  have hb := hb.trans (hal.mono hb.size)
  have HB := Lib.hid (bbase HB.out hb)
  have HE := Lib.hid (HE.out.below (hb.mono HE.out.size))
  have HT := Lib.hid (HT.out.on hb)

  clear hal hb hcell HCall hj0 hj1 HS
  go_wp2_with fail
  generalize wp.alloc (Obj.cells #[.int .i64 0, .int .i64 0, .int .i64 0, .int .i64 0, .int .i64 0, .int .i64 0, .int .i64 0, .int .i64 0] 61) = wx4 at *
  refine (HNa.out _).mono ?_
  rintro e _ ⟨rfl, rfl⟩
  go_wp2_with fail
  refine (HNb.out _).mono ?_
  rintro e _ ⟨rfl, rfl⟩
  go_wp2_with fail
  refine (name_calls HT.out.op ra).mono ?_
  rintro e wa ⟨rfl, hb⟩
  have HB := Lib.hid (bbase HB.out hb)
  have HE := Lib.hid (HE.out.below (hb.mono HE.out.size))
  have HT := Lib.hid (HT.out.on hb)
  clear hb
  go_wp2_with fail
  refine (name_calls HT.out.op rb).mono ?_
  rintro e wb ⟨rfl, hb⟩
  have HB := Lib.hid (bbase HB.out hb)
  have HE := Lib.hid (HE.out.below (hb.mono HE.out.size))
  clear hb HT HN6 HN5 HN4 HNa HNb
  go_wp2_with fail
  refine (is_code HE.out (k := 17) (by decide) (by decide)).mono ?_
  rintro e wc1 ⟨rfl, hb⟩
  have HB := Lib.hid (bbase HB.out hb)
  have HE := Lib.hid (HE.out.below (hb.mono HE.out.size))
  clear hb
  go_wp2_with fail
  refine (is_code HE.out (k := 18) (by decide) (by decide)).mono ?_
  rintro e wc2 ⟨rfl, hb⟩
  have HB := Lib.hid (bbase HB.out hb)
  have HE := Lib.hid (HE.out.below (hb.mono HE.out.size))
  clear hb
  go_wp2_with fail
  refine (is_code HE.out (k := 2) (by decide) (by decide)).mono ?_
  rintro e wc3 ⟨rfl, hb⟩
  have HB := Lib.hid (bbase HB.out hb)
  clear hb HE
  rcases nameB_cases hA0 hA1 with ⟨rfl, hn⟩ | ⟨rfl, hn⟩ | ⟨h1, h2, hne, hun⟩
  · rw [hn]
    clear hn
    by_cases hr : rb = 0
    · subst hr
      go_wp2_with fail
      go_ret
      exact ⟨rfl, HB.out⟩
    · have hq : ((0 : Int) == rb) = false := by simp; omega
      go_wp2_with fail
      go_ret
      exact ⟨rfl, HB.out⟩
  · rw [hn]
    clear hn
    by_cases hr : rb = 17
    · subst hr
      go_wp2_with fail
      go_ret
      exact ⟨rfl, HB.out⟩
    · have hq : ((17 : Int) == rb) = false := by simp; omega
      go_wp2_with fail
      go_ret
      exact ⟨rfl, HB.out⟩
  · have d1 : decide (ra ≥ 1) = true := decide_eq_true h1
    have d2 : decide (ra ≤ 16) = true := decide_eq_true h2
    have hx : ((nameB ra).toList == []) = false := by simpa using hne
    have hun := Lib.hid hun
    by_cases hr : ra = rb
    · subst hr
      have hq : (ra == ra) = true := by simp
      generalize nameB ra = X at hx
      go_wp2_with fail
      go_ret
      exact ⟨rfl, HB.out⟩
    · have hq : (ra == rb) = false := by simpa using hr
      have hy := hun.out rb hB0 hB1 hr
      have hz : ((nameB ra).toList == (nameB rb).toList) = false := by simpa using hy
      clear hun hy hne
      generalize nameB ra = X at hx hz
      generalize nameB rb = Y at hz
      go_wp2_with fail
      go_ret
      exact ⟨rfl, HB.out⟩
end Go.Proofs.YtkdmedmlbglgmaaDoor
