/- pledgeref26.Parse: what the reference says of words. (Written by gen_refparse.py.) -/
import Derived.Test.YtchbkceconlbkaaGreatDoorOpPar1
import Derived.Test.YtchbkceconlbkaaGreatDoorLib
import Derived.Test.YtchbkceconlbkaaGreatDoorNumLaw
import Derived.Deep.DeepCutAuto
import Derived.Test.YtchbkceconlbkaaGreatDoorRefValid
import Derived.Test.YtchbkceconlbkaaGreatDoorWordLaw
import Derived.Test.YtchbkceconlbkaaGreatDoorRefText
import Derived.Test.YtchbkceconlbkaaGreatDoorPlayKit
import Derived.Test.YtchbkceconlbkaaGreatDoorRefRead
import Derived.Deep.RegionHeld3
namespace Go.Proofs.YtchbkceconlbkaaGreatDoor
open Go Go.RowKit
set_option linter.unusedSimpArgs false
set_option linter.unusedVariables false

theorem canon_split (l : List UInt8) : canon l = (l.all dig && (!l.isEmpty && (l.head? != some 48 || l.length == 1))) := by
  unfold canon
  cases l.all dig <;> cases l.isEmpty <;> simp
set_option maxHeartbeats 4000000 in
set_option maxRecDepth 100000 in
theorem refNumber_calls (s : ByteArray) (hs : s.size ≤ 1000000) (w : World) :
    Calls Tryz.prog 48 #[.string s] w fun e w' => e = .returned (.tuple #[.int .i64 (if isNumW s.data.toList then (valD s.data.toList : Int) else 0), .bool (isNumW s.data.toList)]) ∧ w = w' := by
  have hsz : s.data.toList.length = s.size := rfl
  obtain ⟨r, hr⟩ : ∃ r, r = isNumW s.data.toList := ⟨_, rfl⟩
  rw [← hr]
  have HR := Lib.hid hr
  clear hr
  by_cases hbad : s.size < 1 ∨ 18 < s.size ∨ (s.data.toList.head? = some 48 ∧ 1 < s.size)
  · have hrf : r = false := by
      rw [HR.out]
      unfold isNumW
      rw [canon_split, hsz]
      rcases hbad with h | h | ⟨h1, h2⟩
      · have : s.data.toList = [] := List.length_eq_zero_iff.1 (by omega)
        rw [this]; simp
      · rw [decide_eq_false (by omega)]; rfl
      · rw [h1]
        have : (s.size == 1) = false := by simp; omega
        simp [this]
    subst hrf
    by_cases h1 : s.size < 1
    · have d1 : decide ((s.size : Int) < 1) = true := decide_eq_true (by omega)
      clear hbad
      go_enter Tryz.func48, Tryz.ntmps48
      go_wp2_with fail
      refine bodyPost_ret (v := .tuple #[.int .i64 0, .bool false]) (by simp [results, Tryz.results48, go_sem]) rfl ⟨rfl, rfl⟩
    · have d1 : decide ((s.size : Int) < 1) = false := decide_eq_false (by omega)
      by_cases h18 : 18 < s.size
      · have d2 : decide ((s.size : Int) > 18) = true := decide_eq_true (by omega)
        clear hbad
        go_enter Tryz.func48, Tryz.ntmps48
        go_wp2_with fail
        refine bodyPost_ret (v := .tuple #[.int .i64 0, .bool false]) (by simp [results, Tryz.results48, go_sem]) rfl ⟨rfl, rfl⟩
      · have d2 : decide ((s.size : Int) > 18) = false := decide_eq_false (by omega)
        obtain ⟨hh, hgt⟩ : s.data.toList.head? = some 48 ∧ 1 < s.size := by
          rcases hbad with h | h | h
          · omega
          · omega
          · exact h
        have h0 : 0 < s.size := by omega
        have hc : s[0]'h0 = 48 := by
          have e : s.data.toList.head? = some (s[0]'h0) := by
            have hl : 0 < s.data.toList.length := h0
            rw [List.head?_eq_getElem?, List.getElem?_eq_getElem hl]
            rfl
          rw [e] at hh
          exact Option.some.inj hh
        have d3 : decide ((s.size : Int) > 1) = true := decide_eq_true (by omega)
        have hci : (((s[0]'h0).toNat : Int) == 48) = true := by rw [hc]; rfl
        clear hbad hh
        go_enter Tryz.func48, Tryz.ntmps48
        go_wp2_with fail
        refine bodyPost_ret (v := .tuple #[.int .i64 0, .bool false]) (by simp [results, Tryz.results48, go_sem]) rfl ⟨rfl, rfl⟩
  · have h1 : ¬ s.size < 1 := fun h => hbad (.inl h)
    have h18 : ¬ 18 < s.size := fun h => hbad (.inr (.inl h))
    have h3 : ¬ (s.data.toList.head? = some 48 ∧ 1 < s.size) := fun h => hbad (.inr (.inr h))
    have h0 : 0 < s.size := by omega
    have hrest : isNumW s.data.toList = s.data.toList.all dig := by
      unfold isNumW
      rw [canon_split, hsz, decide_eq_true (by omega)]
      have he : s.data.toList.isEmpty = false := by
        cases h : s.data.toList with
        | nil => rw [h] at hsz; simp at hsz; omega
        | cons _ _ => rfl
      rw [he]
      have : (s.data.toList.head? != some 48 || s.size == 1) = true := by
        rw [Bool.or_eq_true, bne_iff_ne, beq_iff_eq]
        by_cases h : s.data.toList.head? = some 48
        · right
          rcases Nat.lt_or_ge 1 s.size with h2 | h2
          · exact absurd ⟨h, h2⟩ h3
          · omega
        · exact .inl h
      rw [this]
      simp
    have HRest := Lib.hid hrest
    have d1 : decide ((s.size : Int) < 1) = false := decide_eq_false (by omega)
    have d2 : decide ((s.size : Int) > 18) = false := decide_eq_false (by omega)
    have hhead : s.data.toList.head? = some (s[0]'h0) := by
      have hl : 0 < s.data.toList.length := h0
      rw [List.head?_eq_getElem?, List.getElem?_eq_getElem hl]
      rfl
    have H3 := Lib.hid h3
    clear hbad h3 hrest
    go_enter Tryz.func48, Tryz.ntmps48
    go_upto_region 1 with fail
    go_cut [23] (fun v wx => v = .bool false ∧ w = wx)
    case first =>
      by_cases hc : s[0]'h0 = 48
      · have hci : (((s[0]'h0).toNat : Int) == 48) = true := by rw [hc]; rfl
        have d3 : decide ((s.size : Int) > 1) = false := decide_eq_false (fun h => H3.out ⟨by rw [hhead, hc], by omega⟩)
        clear hhead
        go_wp2_with fail
        go_meet
        exact ⟨rfl, rfl⟩
      · have hci : (((s[0]'h0).toNat : Int) == 48) = false := by
          rw [beq_eq_false_iff_ne]
          intro h
          exact hc (UInt8.toNat_inj.1 (by show _ = 48; omega))
        clear hhead hc
        go_wp2_with fail
        go_meet
        exact ⟨rfl, rfl⟩
    case rest =>
      obtain ⟨rfl, rfl⟩ := hcut
      clear hhead H3 d1 d2
      go_wp2_with fail
      go_loop [5, 4] (fun i v => ∃ q : Nat, q ≤ s.size ∧ i = .int .i64 q ∧ v = .int .i64 (valD (s.data.toList.take q) : Nat) ∧ Hid ((s.data.toList.take q).all dig = true)) (fun i _ => s.size - (intOf i).toNat)
      case atStart => exact ⟨0, by omega, rfl, rfl, rfl⟩
      case round =>
        obtain ⟨q, hq, rfl, rfl, hN⟩ := hrel
        by_cases hqu : q < s.size
        · have hql : q < s.data.toList.length := hqu
          have hi0 : (0 : Int) ≤ (q : Int) := by omega
          have hi1 : (q : Int) < (s.size : Int) := by omega
          have hget : s.data.toList[q]'hql = s[q]'hqu := rfl
          have hv := valD_lt _ hN.out
          have hp : 10 ^ (s.data.toList.take q).length ≤ 10 ^ 17 := Nat.pow_le_pow_right (by decide) (by rw [List.length_take]; omega)
          have hvb : valD (s.data.toList.take q) < 10 ^ 17 := by omega
          have hsucc : valD (s.data.toList.take (q + 1)) = valD (s.data.toList.take q) * 10 + ((s[q]'hqu).toNat - 48) := by
            rw [List.take_add_one, List.getElem?_eq_getElem hql]
            exact valD_append _ _
          have hall : (s.data.toList.take (q + 1)).all dig = dig (s[q]'hqu) := by
            rw [List.take_add_one, List.getElem?_eq_getElem hql, List.all_append, hN.out, hget]
            simp
          have HS := Lib.hid hsucc
          have HA := Lib.hid hall
          have hdrop : s.data.toList.all dig = true → dig (s[q]'hqu) = true := fun h => List.all_eq_true.1 h _ (by rw [← hget]; exact List.getElem_mem _)
          have HDr := Lib.hid hdrop
          clear hv hp hsucc hall hdrop hget
          generalize valD (s.data.toList.take q) = v at hvb HS ⊢
          by_cases hd : dig (s[q]'hqu) = true
          · have hb : 48 ≤ (s[q]'hqu).toNat ∧ (s[q]'hqu).toNat ≤ 57 := by simpa [dig] using hd
            have hAll : Hid ((s.data.toList.take (q + 1)).all dig = true) := by rw [Hid, HA.out]; exact hd
            generalize hce : (s[q]'hqu).toNat = c at hb HS
            have e1 : decide ((c : Int) < 48) = false := decide_eq_false (by omega)
            have e2 : decide ((c : Int) > 57) = false := decide_eq_false (by omega)
            have hw1 : IntKind.i64.wrap (10 * (v : Int)) = 10 * (v : Int) := IntWalk.i64_in _ (by omega)
            have hw2 : IntKind.u8.wrap ((c : Int) - 48) = (c : Int) - 48 := by simp [IntKind.wrap, IntKind.signed, IntKind.bits]; omega
            have hw3 : IntKind.i64.wrap (10 * (v : Int) + ((c : Int) - 48)) = 10 * (v : Int) + ((c : Int) - 48) := IntWalk.i64_in _ (by omega)
            clear hd HA
            go_wp2_with fail
            go_round
            case rel => exact ⟨q + 1, by omega, by go_num, by rw [HS.out]; congr 1; omega, hAll⟩
            case measure => simp [intOf]; omega
          · have hrf : r = false := by
              rw [HR.out, HRest.out]
              cases h : s.data.toList.all dig with
              | true => exact absurd (HDr.out h) hd
              | false => rfl
            subst hrf
            have hb : (s[q]'hqu).toNat < 48 ∨ 57 < (s[q]'hqu).toNat := by
              rcases Nat.lt_or_ge (s[q]'hqu).toNat 48 with h | h
              · exact .inl h
              · rcases Nat.lt_or_ge 57 (s[q]'hqu).toNat with h2 | h2
                · exact .inr h2
                · exact absurd (by simp [dig, h, h2]) hd
            have HBd := Lib.hid hb
            clear hd hb HA HS HDr
            generalize hce : (s[q]'hqu).toNat = c at HBd
            by_cases hc48 : c < 48
            · have e1 : decide ((c : Int) < 48) = true := decide_eq_true (by omega)
              go_wp2_with fail
              refine bodyPost_ret (v := .tuple #[.int .i64 0, .bool false]) (by simp [results, Tryz.results48, go_sem]) rfl ⟨rfl, rfl⟩
            · have e1 : decide ((c : Int) < 48) = false := decide_eq_false (by omega)
              have e2 : decide ((c : Int) > 57) = true := decide_eq_true (by have := HBd.out; omega)
              go_wp2_with fail
              refine bodyPost_ret (v := .tuple #[.int .i64 0, .bool false]) (by simp [results, Tryz.results48, go_sem]) rfl ⟨rfl, rfl⟩
        · obtain rfl : q = s.size := by omega
          have hN' := hN.out
          rw [List.take_of_length_le (Nat.le_refl s.size)] at hN' ⊢
          have hrt : r = true := by rw [HR.out, HRest.out]; exact hN'
          subst hrt
          clear hN hN'
          go_wp2_with fail
          refine bodyPost_ret (v := .tuple #[.int .i64 (valD s.data.toList : Nat), .bool true]) (by simp [results, Tryz.results48, go_sem]) rfl ⟨rfl, rfl⟩

theorem strEq_true {a b : ByteArray} (h : a = b) : (a.toList == b.toList) = true := by rw [h]; simp
theorem strEq_false {a b : ByteArray} (h : ¬ a = b) : (a.toList == b.toList) = false := by
  rw [beq_eq_false_iff_ne]
  intro e
  rw [ByteArray.toList_eq, ByteArray.toList_eq] at e
  exact h (ByteArray.ext (Array.ext' e))
/-- The last of the first q kinds whose word is x. -/
def kR (x : ByteArray) : Nat → Nat
  | 0 => 0
  | q + 1 => if wordB (q + 1) = x then q + 1 else kR x q
theorem kR_le (x : ByteArray) : ∀ q, kR x q ≤ q
  | 0 => Nat.le_refl _
  | q + 1 => by unfold kR; split <;> have := kR_le x q <;> omega
theorem kR_word : ∀ k, k < 16 → kR (wordB (k + 1)) 16 = k + 1 := by decide +kernel
theorem kR_none {x : ByteArray} : ∀ q, (∀ j, j < q → wordB (j + 1) ≠ x) → kR x q = 0
  | 0, _ => rfl
  | q + 1, h => by unfold kR; rw [if_neg (h q (by omega))]; exact kR_none q (fun j hj => h j (by omega))
theorem kR_zero {x : ByteArray} : ∀ q, kR x q = 0 → ∀ j, j < q → wordB (j + 1) ≠ x
  | 0, _, j, hj => by omega
  | q + 1, h, j, hj => by
    unfold kR at h
    by_cases e : wordB (q + 1) = x
    · rw [if_pos e] at h; omega
    · rw [if_neg e] at h
      by_cases hq : j = q
      · subst hq; exact e
      · exact kR_zero q h j (by omega)
theorem kR_at {x : ByteArray} : ∀ q, kR x q ≠ 0 → wordB (kR x q) = x
  | 0, h => absurd rfl h
  | q + 1, h => by
    unfold kR at h ⊢
    by_cases e : wordB (q + 1) = x
    · rw [if_pos e]; exact e
    · rw [if_neg e] at h ⊢; exact kR_at q h
theorem kindOf_none {x : ByteArray} (h : ∀ j, j < 16 → wordB (j + 1) ≠ x) : kindOf x = 0 := by
  unfold kindOf Lib.idxOfS
  rw [Lib.idxFromS_miss x namesL 0 (fun j hj => by
    have hl : namesL.length = 16 := rfl
    have e : namesL.getD j ByteArray.empty = wordB (j + 1) := by
      unfold namesL
      rw [List.getD, List.getElem?_map, List.getElem?_range (by omega)]
      rfl
    rw [e]
    exact h j (by omega))]
  rfl
theorem kR_kind (x : ByteArray) : kR x 16 = kindOf x := by
  by_cases h0 : kR x 16 = 0
  · rw [h0, kindOf_none (fun j hj => kR_zero 16 h0 j hj)]
  · have h1 := kR_at 16 h0
    have h2 := kR_le x 16
    rw [← kind_name (kR x 16) (by omega) (by omega), h1]
/-- Word i as the reference's number; whether the words of a kind of m letters are numbers, the first q fields'. -/
def numR (ws : List ByteArray) (i : Nat) : Int := if isNumW (wordAt ws i) then (valD (wordAt ws i) : Int) else 0
def isR (ws : List ByteArray) (i : Nat) : Bool := isNumW (wordAt ws i)
def okR (ws : List ByteArray) : Nat → Bool
  | 0 => isR ws 0
  | q + 1 => okR ws q && isR ws (2 + q)
theorem okR_fits (ws : List ByteArray) : ∀ m, okR ws m = (List.range (2 + m)).all (fitsAt ws)
  | 0 => by simp [okR, isR, fitsAt, numW_fits, List.range_succ]
  | m + 1 => by
    have e : (List.range (2 + (m + 1))) = List.range (2 + m) ++ [2 + m] := by rw [show 2 + (m + 1) = (2 + m) + 1 by omega, List.range_succ]
    have e2 : (2 + m == 1) = false := by simp; omega
    rw [e, List.all_append, ← okR_fits ws m]
    simp [okR, isR, fitsAt, numW_fits, e2]
theorem numR_fits {ws : List ByteArray} {i : Nat} (h1 : i ≠ 1) (h : fitsAt ws i = true) : numAt ws i = numR ws i := by
  unfold fitsAt at h
  have h2 : (numW (wordAt ws i)).2 = true := by simpa [h1] using h
  rw [numW_fits] at h2
  unfold numAt numR
  rw [if_pos h2, numW_val _ h2]
theorem fAt_congr {u : List UInt8} {f g : Nat → Int} (h : ∀ i, i < u.length → f (2 + i) = g (2 + i)) (j : Nat) : fAt u f u.length j = fAt u g u.length j := by
  unfold fAt
  by_cases e : u.idxOf (letterAt j) < u.length
  · rw [if_pos e, if_pos e]; exact h _ e
  · rw [if_neg e, if_neg e]
def validR (ws : List ByteArray) (kk : Nat) (ul : List UInt8) (m : Nat) : Nat := validC (numR ws 0) kk (fAt ul (numR ws) m 0) (fAt ul (numR ws) m 1) (fAt ul (numR ws) m 2) (fAt ul (numR ws) m 3) (fAt ul (numR ws) m 4) (fAt ul (numR ws) m 5)
theorem parseR_word {ws : List ByteArray} (h : ws.length < 2 ∨ kindW ws = 0 ∨ ws.length ≠ 2 + (usesL (kindW ws)).length) : (Value.tuple #[parseO ws, .int .i64 (parseC ws : Nat)]) = .tuple #[opV 0 0 0 0 0 0 0 0, .int .i64 118] := by
  have hc : parseC ws = 118 := by
    unfold parseC
    by_cases h1 : ws.length < 2
    · rw [if_pos h1]
    · rw [if_neg h1]
      by_cases h2 : kindW ws = 0
      · rw [if_pos h2]
      · rw [if_neg h2, if_pos (by rcases h with h | h | h; exact absurd h h1; exact absurd h h2; exact h)]
  unfold parseO; rw [hc]; rfl
theorem parseR_bad {ws : List ByteArray} (h1 : ¬ ws.length < 2) (h2 : kindW ws ≠ 0) (h3 : ws.length = 2 + (usesL (kindW ws)).length) (h4 : okR ws (usesL (kindW ws)).length = false) : (Value.tuple #[parseO ws, .int .i64 (parseC ws : Nat)]) = .tuple #[opV 0 0 0 0 0 0 0 0, .int .i64 119] := by
  have hc : parseC ws = 119 := by
    unfold parseC
    rw [if_neg h1, if_neg h2, if_neg (by omega), if_pos]
    rw [h3, ← okR_fits, h4]
  unfold parseO; rw [hc]; rfl
theorem parseR_good {ws : List ByteArray} (h1 : ¬ ws.length < 2) (h2 : kindW ws ≠ 0) (h3 : ws.length = 2 + (usesL (kindW ws)).length) (h4 : okR ws (usesL (kindW ws)).length = true) :
    (Value.tuple #[parseO ws, .int .i64 (parseC ws : Nat)]) = .tuple #[if validR ws (kindW ws) (usesL (kindW ws)) (usesL (kindW ws)).length = 0 then opV (numR ws 0) (kindW ws) (fAt (usesL (kindW ws)) (numR ws) (usesL (kindW ws)).length 0) (fAt (usesL (kindW ws)) (numR ws) (usesL (kindW ws)).length 1) (fAt (usesL (kindW ws)) (numR ws) (usesL (kindW ws)).length 2) (fAt (usesL (kindW ws)) (numR ws) (usesL (kindW ws)).length 3) (fAt (usesL (kindW ws)) (numR ws) (usesL (kindW ws)).length 4) (fAt (usesL (kindW ws)) (numR ws) (usesL (kindW ws)).length 5) else opV 0 0 0 0 0 0 0 0, .int .i64 (codeV (validR ws (kindW ws) (usesL (kindW ws)) (usesL (kindW ws)).length) : Nat)] := by
  rw [okR_fits, ← h3] at h4
  have hf : ∀ i, i < ws.length → fitsAt ws i = true := fun i hi => (List.all_eq_true.1 h4) i (by simpa using hi)
  have e0 : numAt ws 0 = numR ws 0 := numR_fits (by decide) (hf 0 (by omega))
  have ef : ∀ j, fieldW ws j = fAt (usesL (kindW ws)) (numR ws) (usesL (kindW ws)).length j := fun j => by
    unfold fieldW
    exact fAt_congr (fun i hi => numR_fits (by omega) (hf _ (by omega))) j
  have ev : validW ws = validR ws (kindW ws) (usesL (kindW ws)) (usesL (kindW ws)).length := by
    unfold validW validR
    rw [e0, ef, ef, ef, ef, ef, ef]
  have hc : parseC ws = codeV (validR ws (kindW ws) (usesL (kindW ws)) (usesL (kindW ws)).length) := by
    unfold parseC
    rw [if_neg h1, if_neg h2, if_neg (by omega), if_neg (by rw [h4]; simp), ev]
  have hz : ∀ c, codeV c = 0 ↔ c = 0 := fun c => by unfold codeV; split <;> simp_all
  unfold parseO
  rw [hc]
  simp only [hz]
  rw [e0, ef, ef, ef, ef, ef, ef]

set_option maxHeartbeats 16000000 in
set_option maxRecDepth 100000 in
theorem refParse_calls {w : World} (a : Option Addr) (cap : Nat) (ws : List ByteArray) (hR : SRow w a ws) (hsz : ∀ j, j < ws.length → (ws.getD j ⟨#[]⟩).size ≤ 1000000) (hn2 : ws.length ≤ 1000000) :
    Calls Tryz.prog 18 #[.slice a ws.length cap] w fun e w' => e = .returned (.tuple #[parseO ws, .int .i64 (parseC ws : Nat)]) ∧ Below w.heap.size w w' := by
  obtain ⟨rv, hrv⟩ : ∃ rv, rv = Value.tuple #[parseO ws, .int .i64 (parseC ws : Nat)] := ⟨_, rfl⟩
  rw [← hrv]
  have HRv := Lib.hid hrv
  clear hrv
  have hT1 := there_new w #[.int .i64 0, .int .i64 0, .int .i64 0, .int .i64 0, .int .i64 0, .int .i64 0, .int .i64 0, .int .i64 0] 23 8 (by decide)
  have hB1 : Below w.heap.size w (w.alloc (Obj.cells #[.int .i64 0, .int .i64 0, .int .i64 0, .int .i64 0, .int .i64 0, .int .i64 0, .int .i64 0, .int .i64 0] 23)) := (Below.refl _ _).alloc (Nat.le_refl _) _
  have hs1 : (w.alloc (Obj.cells #[.int .i64 0, .int .i64 0, .int .i64 0, .int .i64 0, .int .i64 0, .int .i64 0, .int .i64 0, .int .i64 0] 23)).heap.size = w.heap.size + 1 := by simp
  have HR := Lib.hid (hR.below hB1)
  have HT1 := Lib.hid hT1
  have HB1 := Lib.hid hB1
  have HSz := Lib.hid hsz
  clear hR hT1 hB1 hsz
  by_cases h2 : ws.length < 2
  · have hd : decide ((ws.length : Int) < 2) = true := decide_eq_true (by omega)
    have HW118 := Lib.hid (HRv.out.trans (parseR_word (.inl h2)))
    clear HRv HR HSz
    generalize ws.length = n at *
    go_enter Tryz.func18, Tryz.ntmps18
    go_upto_region 2 with fail
    generalize w.alloc (Obj.cells #[.int .i64 0, .int .i64 0, .int .i64 0, .int .i64 0, .int .i64 0, .int .i64 0, .int .i64 0, .int .i64 0] 23) = W1 at *
    obtain ⟨W9, hW9⟩ : ∃ W9, W9 = W1.setCells w.heap.size 0 zero8 := ⟨_, rfl⟩
    have hr8 : W9.rangeAt w.heap.size 0 zero8 := by rw [hW9]; exact World.rangeAt_setCells_same _ _ _ _ HT1.out
    have HBE : Hid (Below w.heap.size w W9) := by
      have hk : Keep (fun x => x = w.heap.size) W1 W9 := by rw [hW9]; exact keep_setCells _ _ _ _
      exact HB1.out.trans (hk.below (by omega) (fun j hj e => by omega))
    have HW9 := Lib.hid hW9
    clear hW9
    go_wp2_with (refine wpList_store_mid rfl 23 _ _ rfl w.heap.size 0 #[.int .i64 0, .int .i64 0, .int .i64 0, .int .i64 0, .int .i64 0, .int .i64 0, .int .i64 0, .int .i64 0] rfl rfl HT1.out (by kernel_rfl) (by simp [Value.oneCell']) ?_; rw [← HW9.out])
    have c0 := hr8 0 _ rfl; have c1 := hr8 1 _ rfl; have c2 := hr8 2 _ rfl; have c3 := hr8 3 _ rfl; have c4 := hr8 4 _ rfl; have c5 := hr8 5 _ rfl; have c6 := hr8 6 _ rfl; have c7 := hr8 7 _ rfl
    rw [HW118.out]
    exact bodyPost_ret (v := .tuple #[opV 0 0 0 0 0 0 0 0, .int .i64 118]) (by simp [results, Tryz.results18, go_sem, c0, c1, c2, c3, c4, c5, c6, c7]) rfl ⟨rfl, HBE.out⟩
  · have hd : decide ((ws.length : Int) < 2) = false := decide_eq_false (by omega)
    obtain ⟨g, off, rfl, hgs, hcell⟩ := HR.out.open (by omega)
    have hT2 := there_new (w.alloc (Obj.cells #[.int .i64 0, .int .i64 0, .int .i64 0, .int .i64 0, .int .i64 0, .int .i64 0, .int .i64 0, .int .i64 0] 23)) #[.int .i64 0, .int .i64 0, .int .i64 0, .int .i64 0, .int .i64 0, .int .i64 0, .int .i64 0, .int .i64 0] 23 8 (by decide)
    rw [hs1] at hT2
    have hal : Below (w.alloc (Obj.cells #[.int .i64 0, .int .i64 0, .int .i64 0, .int .i64 0, .int .i64 0, .int .i64 0, .int .i64 0, .int .i64 0] 23)).heap.size (w.alloc (Obj.cells #[.int .i64 0, .int .i64 0, .int .i64 0, .int .i64 0, .int .i64 0, .int .i64 0, .int .i64 0, .int .i64 0] 23)) ((w.alloc (Obj.cells #[.int .i64 0, .int .i64 0, .int .i64 0, .int .i64 0, .int .i64 0, .int .i64 0, .int .i64 0, .int .i64 0] 23)).alloc (Obj.cells #[.int .i64 0, .int .i64 0, .int .i64 0, .int .i64 0, .int .i64 0, .int .i64 0, .int .i64 0, .int .i64 0] 23)) := (Below.refl _ _).alloc (Nat.le_refl _) _
    have HT1 := Lib.hid (World.there.below HT1.out (by omega) hal)
    obtain ⟨W2, hW2⟩ : ∃ W2, W2 = ((w.alloc (Obj.cells #[.int .i64 0, .int .i64 0, .int .i64 0, .int .i64 0, .int .i64 0, .int .i64 0, .int .i64 0, .int .i64 0] 23)).alloc (Obj.cells #[.int .i64 0, .int .i64 0, .int .i64 0, .int .i64 0, .int .i64 0, .int .i64 0, .int .i64 0, .int .i64 0] 23)).setCells (w.heap.size + 1) 0 zero8 := ⟨_, rfl⟩
    have hk2 : Keep (fun x => x = w.heap.size + 1) ((w.alloc (Obj.cells #[.int .i64 0, .int .i64 0, .int .i64 0, .int .i64 0, .int .i64 0, .int .i64 0, .int .i64 0, .int .i64 0] 23)).alloc (Obj.cells #[.int .i64 0, .int .i64 0, .int .i64 0, .int .i64 0, .int .i64 0, .int .i64 0, .int .i64 0, .int .i64 0] 23)) W2 := by rw [hW2]; exact keep_setCells _ _ _ _
    have hr2 : W2.rangeAt (w.heap.size + 1) 0 zero8 := by rw [hW2]; exact World.rangeAt_setCells_same _ _ _ _ hT2
    have hth2 : W2.there (w.heap.size + 1) 0 8 := by rw [hW2]; exact World.there_setCells hT2 _ _ _
    have hsa : ((w.alloc (Obj.cells #[.int .i64 0, .int .i64 0, .int .i64 0, .int .i64 0, .int .i64 0, .int .i64 0, .int .i64 0, .int .i64 0] 23)).alloc (Obj.cells #[.int .i64 0, .int .i64 0, .int .i64 0, .int .i64 0, .int .i64 0, .int .i64 0, .int .i64 0, .int .i64 0] 23)).heap.size = w.heap.size + 2 := by simp
    have HT1 := Lib.hid (there_keep1 HT1.out (by omega) hk2 (by omega))
    have hs2 : w.heap.size + 2 ≤ W2.heap.size := by have := hk2.size; omega
    have HB2 := Lib.hid (HB1.out.trans ((hal.mono (by omega)).trans (hk2.below (B := w.heap.size) (by omega) (fun j hj e => by omega))))
    have hg1 : g < w.heap.size + 1 := by rw [← hs1]; exact hgs
    have hcell2 : ∀ j, j < ws.length → W2.cell? ⟨g, off + j, none⟩ = some (.string (ws.getD j ⟨#[]⟩)) := fun j hj => (hk2.cell (x := ⟨g, off + j, none⟩) (by show g < _; omega) (show ¬ g = w.heap.size + 1 by omega)).trans ((hal.cell (p := ⟨g, off + j, none⟩) hgs).trans (hcell j hj))
    have HC2 := Lib.hid hcell2
    have HA2 : Hid (Arr W2 (w.heap.size + 1) 8 (fun j => if j = 1 then .int .i64 (kR (ws.getD 1 ⟨#[]⟩) 0 : Nat) else .int .i64 0)) := by
      have h0 : ∀ j, j < 8 → W2.cell? ⟨w.heap.size + 1, j, none⟩ = some (.int .i64 0) := fun j hj => by
        have h := hr2 j (.int .i64 0) (by
          have : j = 0 ∨ j = 1 ∨ j = 2 ∨ j = 3 ∨ j = 4 ∨ j = 5 ∨ j = 6 ∨ j = 7 := by omega
          rcases this with rfl | rfl | rfl | rfl | rfl | rfl | rfl | rfl <;> rfl)
        rwa [Nat.zero_add] at h
      refine ⟨fun j hj => ?_, fun j hj => ?_⟩
      · rw [h0 j hj]
        show _ = some (if j = 1 then Value.int .i64 0 else .int .i64 0)
        rw [ite_self]
      · have := (hth2 j hj).2
        rwa [Nat.zero_add] at this
    have HW2 := Lib.hid hW2
    have HT2 := Lib.hid hT2
    clear hal hk2 hr2 hth2 hW2 hT2 hcell hcell2 HR hs1 hsa HB1
    have hx2 : 2 ≤ ws.length := by omega
    go_enter Tryz.func18, Tryz.ntmps18
    go_wp2_with (refine wpList_store_mid rfl 23 _ _ rfl (w.heap.size + 1) 0 #[.int .i64 0, .int .i64 0, .int .i64 0, .int .i64 0, .int .i64 0, .int .i64 0, .int .i64 0, .int .i64 0] rfl rfl HT2.out (by kernel_rfl) (by simp [Value.oneCell']) ?_; rw [← HW2.out])
    clear HT2 HW2
    have HK0 : Hid (Keep (fun x => x = w.heap.size + 1) W2 W2) := Keep.refl _ _
    go_loopw [5] (fun i wr => ∃ q : Nat, q ≤ 16 ∧ i = .int .i64 (q + 1 : Nat) ∧ Hid (Arr wr (w.heap.size + 1) 8 (fun j => if j = 1 then .int .i64 (kR (ws.getD 1 ⟨#[]⟩) q : Nat) else .int .i64 0)) ∧ Hid (Keep (fun x => x = w.heap.size + 1) W2 wr)) (fun i _ => 17 - (intOf i).toNat)
    case atStart => exact ⟨0, by omega, rfl, HA2, HK0⟩
    case round =>
      obtain ⟨q, hq, rfl, hA, hK⟩ := hrel
      clear HA2 HK0
      have hsr : w.heap.size + 2 ≤ wr.heap.size := by have := hK.out.size; omega
      by_cases hq16 : q < 16
      · have hle : decide (((q + 1 : Nat) : Int) ≤ 16) = true := decide_eq_true (by omega)
        have hx : wr.cell? ⟨g, off + 1, none⟩ = some (.string (ws.getD 1 ⟨#[]⟩)) := (hK.out.cell (x := ⟨g, off + 1, none⟩) (by show g < _; omega) (show ¬ g = w.heap.size + 1 by omega)).trans (HC2.out 1 (by omega))
        have HName : Hid (∀ w', Calls Tryz.prog 10 #[.int .i64 (q + 1 : Nat)] w' fun e w'' => e = .returned (.string (wordB (q + 1))) ∧ Below w'.heap.size w' w'') := fun w' => by
          have h := refName_calls ((q + 1 : Nat) : Int) w'
          rw [show nameB ((q + 1 : Nat) : Int) = wordB (q + 1) by unfold nameB; rw [if_pos (by unfold isK; simp; omega)]; rfl] at h
          exact h
        have HKs := Lib.hid (show kR (ws.getD 1 ⟨#[]⟩) (q + 1) = if wordB (q + 1) = ws.getD 1 ⟨#[]⟩ then q + 1 else kR (ws.getD 1 ⟨#[]⟩) q from rfl)
        have hnw : 1 < ws.length := by omega
        have HQ : Hid (((q + 1 : Nat) : Int) + 1 = ((q + 1 + 1 : Nat) : Int)) := by unfold Hid; omega
        generalize wordB (q + 1) = nb at *
        generalize ws.getD 1 ⟨#[]⟩ = x at *
        obtain ⟨z, hz⟩ : ∃ z : Int, z = ((q + 1 : Nat) : Int) := ⟨_, rfl⟩
        rw [← hz] at hle HName HQ ⊢
        have hzb := Lib.hid hz
        have hz1 : (1 : Int) ≤ z := by omega
        have hz2 : z ≤ 16 := by omega
        clear hz
        have hxS := hx
        have hnw2 : (1 : Int) < (ws.length : Int) := by omega
        generalize ws.length = n at *
        have hgr : g < wr.heap.size := by omega
        by_cases hnb : nb = x
        · have dnb : (nb.toList == x.toList) = true := strEq_true hnb
          go_upto_region 7 with fail
          go_region_held3 (fun w1 => w1.cell? ⟨g, off + 1, none⟩ = some (.string x))
            (first | exact hx | exact hx1)
            (first | (go_at_call 10; go_loud (refine (HName.out _).mono ?_); go_loud (rintro e w1 ⟨rfl, hb⟩; have hb := (Below.refl wr.heap.size wr).drew.trans hb; have hx1 := (hb.cell (p := ⟨g, off + 1, none⟩) hgr).trans hx)) | fail)
          have HA1 := Lib.hid (hA.out.below (by omega) hb)
          have HK1 := Lib.hid (hK.out.trans (Keep.of_below hb))
          have hs1 : w.heap.size + 2 ≤ w1.heap.size := by have := hb.size; omega
          clear hb hx hx1 hA hK hgr HName hnw hnw2
          have hq1 : IntKind.i64.wrap (z + 1) = z + 1 := IntWalk.i64_in _ (by omega)
          have hc1 := HA1.out.cell 1 (by decide)
          have hf1 := HA1.out.free 1 (by decide)
          have HA6 : Hid (Arr (w1.setCell ⟨w.heap.size + 1, 1, none⟩ (.int .i64 z)) (w.heap.size + 1) 8 (fun j => if j = 1 then .int .i64 (kR x (q + 1) : Nat) else .int .i64 0)) := (HA1.out.set (by decide) (.int .i64 z)).congr (fun j hj => by
            by_cases e : j = 1
            · rw [if_pos e, if_pos e, HKs.out, if_pos hnb, ← hzb.out]
            · rw [if_neg e, if_neg e, if_neg e])
          have HK6 := Lib.hid (HK1.out.trans (keep_setCell w1 ⟨w.heap.size + 1, 1, none⟩ (.int .i64 z)))
          clear HA1 HK1 HKs
          clear hnb
          go_wp2_with fail
          go_roundw
          case rel => exact ⟨q + 1, by omega, by rw [HQ.out], HA6, HK6⟩
          case measure => simp [intOf]; omega
        · have dnb : (nb.toList == x.toList) = false := strEq_false hnb
          go_upto_region 7 with fail
          go_region_held3 (fun w1 => w1.cell? ⟨g, off + 1, none⟩ = some (.string x))
            (first | exact hx | exact hx1)
            (first | (go_at_call 10; go_loud (refine (HName.out _).mono ?_); go_loud (rintro e w1 ⟨rfl, hb⟩; have hb := (Below.refl wr.heap.size wr).drew.trans hb; have hx1 := (hb.cell (p := ⟨g, off + 1, none⟩) hgr).trans hx)) | fail)
          have HA1 := Lib.hid (hA.out.below (by omega) hb)
          have HK1 := Lib.hid (hK.out.trans (Keep.of_below hb))
          have hs1 : w.heap.size + 2 ≤ w1.heap.size := by have := hb.size; omega
          clear hb hx hx1 hA hK hgr HName hnw hnw2
          have hq1 : IntKind.i64.wrap (z + 1) = z + 1 := IntWalk.i64_in _ (by omega)
          have HA6 : Hid (Arr w1 (w.heap.size + 1) 8 (fun j => if j = 1 then .int .i64 (kR x (q + 1) : Nat) else .int .i64 0)) := by
            rw [HKs.out, if_neg hnb]
            exact HA1.out
          have HK6 := HK1
          clear HA1 HK1 HKs
          clear hnb
          go_wp2_with fail
          go_roundw
          case rel => exact ⟨q + 1, by omega, by rw [HQ.out], HA6, HK6⟩
          case measure => simp [intOf]; omega
      · obtain rfl : q = 16 := by omega
        have HA : Hid (Arr wr (w.heap.size + 1) 8 (fun j => if j = 1 then .int .i64 (kindW ws : Nat) else .int .i64 0)) := by
          have h := hA.out
          rw [kR_kind] at h
          exact h
        have hk16 : kindW ws ≤ 16 := (kindOf_idx (ws.getD 1 ⟨#[]⟩)).2
        have HW : Hid (kindW ws = 0 ∨ ws.length ≠ 2 + (usesL (kindW ws)).length → rv = .tuple #[opV 0 0 0 0 0 0 0 0, .int .i64 118]) := fun h => HRv.out.trans (parseR_word (.inr h))
        have HBad : Hid (kindW ws ≠ 0 → ws.length = 2 + (usesL (kindW ws)).length → okR ws (usesL (kindW ws)).length = false → rv = .tuple #[opV 0 0 0 0 0 0 0 0, .int .i64 119]) := fun ha hb hc => HRv.out.trans (parseR_bad h2 ha hb hc)
        have HGood : Hid (kindW ws ≠ 0 → ws.length = 2 + (usesL (kindW ws)).length → okR ws (usesL (kindW ws)).length = true → rv = _) := fun ha hb hc => HRv.out.trans (parseR_good h2 ha hb hc)
        have HC : Hid (∀ w', Keep (fun x => x = w.heap.size + 1) W2 w' → ∀ j, j < ws.length → w'.cell? ⟨g, off + j, none⟩ = some (.string (ws.getD j ⟨#[]⟩))) := fun w' hk j hj => (hk.cell (x := ⟨g, off + j, none⟩) (by show g < _; omega) (show ¬ g = w.heap.size + 1 by omega)).trans (HC2.out j hj)
        have HTr := Lib.hid (there_keep1 HT1.out (by omega) hK.out (by omega))
        have HBr := Lib.hid (HB2.out.trans (hK.out.below (B := w.heap.size) (by omega) (fun j hj e => by omega)))
        clear hA HRv HC2
        generalize kindW ws = kk at *
        obtain ⟨z, hz⟩ : ∃ z : Int, z = ((16 + 1 : Nat) : Int) := ⟨_, rfl⟩
        rw [← hz]
        have hle : decide (z ≤ 16) = false := decide_eq_false (by omega)
        clear hz
        have hc1 := HA.out.cell 1 (by decide)
        rw [if_pos rfl] at hc1
        have HUs := Lib.hid (refUses_calls (kk : Int) wr)
        by_cases hk0 : kk = 0
        · subst hk0
          have HW118 := Lib.hid (HW.out (.inl rfl))
          rw [show usesK ((0 : Nat) : Int) = ⟨#[]⟩ from rfl] at HUs
          clear HW HBad HGood HA HC hk16
          generalize ws.length = n at *
          go_wp2_with fail
          refine HUs.out.mono ?_
          rintro e _ ⟨rfl, rfl⟩
          obtain ⟨W9, hW9⟩ : ∃ W9, W9 = wr.setCells w.heap.size 0 zero8 := ⟨_, rfl⟩
          have hr8 : W9.rangeAt w.heap.size 0 zero8 := by rw [hW9]; exact World.rangeAt_setCells_same _ _ _ _ HTr.out
          have HBE : Hid (Below w.heap.size w W9) := by
            have hk : Keep (fun x => x = w.heap.size) wr W9 := by rw [hW9]; exact keep_setCells _ _ _ _
            exact HBr.out.trans (hk.below (by omega) (fun j hj e => by omega))
          have HW9 := Lib.hid hW9
          clear hW9
          go_wp2_with (refine wpList_store_mid rfl 23 _ _ rfl w.heap.size 0 #[.int .i64 0, .int .i64 0, .int .i64 0, .int .i64 0, .int .i64 0, .int .i64 0, .int .i64 0, .int .i64 0] rfl rfl HTr.out (by kernel_rfl) (by simp [Value.oneCell']) ?_; rw [← HW9.out])
          have c0 := hr8 0 _ rfl; have c1 := hr8 1 _ rfl; have c2 := hr8 2 _ rfl; have c3 := hr8 3 _ rfl; have c4 := hr8 4 _ rfl; have c5 := hr8 5 _ rfl; have c6 := hr8 6 _ rfl; have c7 := hr8 7 _ rfl
          rw [HW118.out]
          exact bodyPost_ret (v := .tuple #[opV 0 0 0 0 0 0 0 0, .int .i64 118]) (by simp [results, Tryz.results18, go_sem, c0, c1, c2, c3, c4, c5, c6, c7]) rfl ⟨rfl, HBE.out⟩
        · have hku : usesK (kk : Int) = usesB kk := by unfold usesK; rw [if_pos (by unfold isK; simp; omega)]; rfl
          rw [hku] at HUs
          have hkz : ((kk : Int) == 0) = false := by simp; omega
          have hul : (usesL kk).length = (usesB kk).size := rfl
          have hus := uses_size kk
          have hw2 : IntKind.i64.wrap (2 + ((usesB kk).size : Int)) = 2 + ((usesB kk).size : Int) := IntWalk.i64_in _ (by omega)
          by_cases hln : ws.length = 2 + (usesL kk).length
          case neg =>
            have HW118 := Lib.hid (HW.out (.inr hln))
            rw [hul] at hln
            have hneq : ((ws.length : Int) != 2 + ((usesB kk).size : Int)) = true := by simp; omega
            clear HW HBad HGood HA HC hln hul hku
            generalize ws.length = n at *
            generalize (usesB kk) = u at *
            go_wp2_with fail
            refine HUs.out.mono ?_
            rintro e _ ⟨rfl, rfl⟩
            obtain ⟨W9, hW9⟩ : ∃ W9, W9 = wr.setCells w.heap.size 0 zero8 := ⟨_, rfl⟩
            have hr8 : W9.rangeAt w.heap.size 0 zero8 := by rw [hW9]; exact World.rangeAt_setCells_same _ _ _ _ HTr.out
            have HBE : Hid (Below w.heap.size w W9) := by
              have hk : Keep (fun x => x = w.heap.size) wr W9 := by rw [hW9]; exact keep_setCells _ _ _ _
              exact HBr.out.trans (hk.below (by omega) (fun j hj e => by omega))
            have HW9 := Lib.hid hW9
            clear hW9
            go_wp2_with (refine wpList_store_mid rfl 23 _ _ rfl w.heap.size 0 #[.int .i64 0, .int .i64 0, .int .i64 0, .int .i64 0, .int .i64 0, .int .i64 0, .int .i64 0, .int .i64 0] rfl rfl HTr.out (by kernel_rfl) (by simp [Value.oneCell']) ?_; rw [← HW9.out])
            have c0 := hr8 0 _ rfl; have c1 := hr8 1 _ rfl; have c2 := hr8 2 _ rfl; have c3 := hr8 3 _ rfl; have c4 := hr8 4 _ rfl; have c5 := hr8 5 _ rfl; have c6 := hr8 6 _ rfl; have c7 := hr8 7 _ rfl
            rw [HW118.out]
            exact bodyPost_ret (v := .tuple #[opV 0 0 0 0 0 0 0 0, .int .i64 118]) (by simp [results, Tryz.results18, go_sem, c0, c1, c2, c3, c4, c5, c6, c7]) rfl ⟨rfl, HBE.out⟩
          case pos =>
            have hneq : ((ws.length : Int) != 2 + ((usesB kk).size : Int)) = false := by rw [hln, hul]; simp
            have HBad := Lib.hid (HBad.out hk0 hln)
            have HGood := Lib.hid (HGood.out hk0 hln)
            have HSucc := Lib.hid (fun q hq j (hj : j < 6) => fAt_succ (k := kk) (q := q) (by omega) hq (numR ws) hj)
            have HLet : Hid (∀ q (hq : q < (usesB kk).size), (usesL kk).getD q 0 = (usesB kk)[q]'hq ∧ letterIx ((usesB kk)[q]'hq) < 6 ∧ letterAt (letterIx ((usesB kk)[q]'hq)) = (usesB kk)[q]'hq) := fun q hq => by
              have hql : q < (usesB kk).data.toList.length := hq
              have hg : (usesB kk).data.toList[q]'hql = (usesB kk)[q]'hq := rfl
              have hm : (usesB kk)[q]'hq ∈ (usesB kk).data.toList := by rw [← hg]; exact List.getElem_mem _
              refine ⟨?_, (uses_letters kk _ hm).2.1, uses_letterAt kk _ hm⟩
              unfold usesL
              rw [List.getD, List.getElem?_eq_getElem hql]
              rfl
            have HNum : Hid (∀ i, i < ws.length → ∀ w', Calls Tryz.prog 48 #[.string (ws.getD i ⟨#[]⟩)] w' fun e w'' => e = .returned (.tuple #[.int .i64 (numR ws i), .bool (isR ws i)]) ∧ w' = w'') := fun i hi w' => refNumber_calls (ws.getD i ⟨#[]⟩) (HSz.out i hi) w'
            have hx0 := HC.out wr hK.out 0 (by omega)
            have HN0 := Lib.hid (HNum.out 0 (by omega) wr)
            have HV0 : Hid (validR ws kk (usesL kk) (usesL kk).length = validC (numR ws 0) kk (fAt (usesL kk) (numR ws) (usesL kk).length 0) (fAt (usesL kk) (numR ws) (usesL kk).length 1) (fAt (usesL kk) (numR ws) (usesL kk).length 2) (fAt (usesL kk) (numR ws) (usesL kk).length 3) (fAt (usesL kk) (numR ws) (usesL kk).length 4) (fAt (usesL kk) (numR ws) (usesL kk).length 5)) := rfl
            have HO0 : Hid (okR ws 0 = isR ws 0) := rfl
            have HOS : Hid (∀ q, okR ws (q + 1) = (okR ws q && isR ws (2 + q))) := fun q => rfl
            rw [Nat.add_zero] at hx0
            rw [hul] at HV0 HBad HGood hln HSucc
            have hn2 : 0 < ws.length := by omega
            have HAs : Hid (∀ v, Arr (wr.setCell ⟨w.heap.size + 1, 0, none⟩ (.int .i64 v)) (w.heap.size + 1) 8 (fun j => if j = 0 then .int .i64 v else if j = 1 then .int .i64 (kk : Nat) else .int .i64 (fAt (usesL kk) (numR ws) 0 (j - 2)))) := fun v => (HA.out.set (by decide) (.int .i64 v)).congr (fun j hj => by
              by_cases e : j = 0
              · rw [if_pos e, if_pos e]
              · rw [if_neg e, if_neg e]
                by_cases e1 : j = 1
                · rw [if_pos e1, if_pos e1]
                · rw [if_neg e1, if_neg e1]; unfold fAt; rw [if_neg (by omega)])
            have hf0 := HA.out.free 0 (by decide)
            have hcz := HA.out.cell 0 (by decide)
            rw [if_neg (by decide)] at hcz
            have HKs : Hid (∀ v, Keep (fun x => x = w.heap.size + 1) W2 (wr.setCell ⟨w.heap.size + 1, 0, none⟩ (.int .i64 v))) := fun v => hK.out.trans (keep_setCell wr ⟨w.heap.size + 1, 0, none⟩ (.int .i64 v))
            generalize ws.length = n at *
            generalize (usesL kk) = ul at *
            generalize (usesB kk) = u at *
            generalize ws.getD 0 ⟨#[]⟩ = y0 at *
            obtain ⟨F, hF⟩ : ∃ F : Nat → Nat → Value, F = fun q j => if j = 0 then .int .i64 (numR ws 0) else if j = 1 then .int .i64 (kk : Nat) else .int .i64 (fAt ul (numR ws) q (j - 2)) := ⟨_, rfl⟩
            have HA0 := HAs.out (numR ws 0)
            have HA0 : Hid (Arr (wr.setCell ⟨w.heap.size + 1, 0, none⟩ (.int .i64 (numR ws 0))) (w.heap.size + 1) 8 (F 0)) := by rw [hF]; exact HA0
            have HK0 := Lib.hid (HKs.out (numR ws 0))
            have HFd := Lib.hid hF
            have HLn := Lib.hid hln
            clear HA HAs HKs hF HW hul hku hln hk16 hK HTr HBr
            generalize numR ws 0 = id at HA0 HK0 HN0 HV0 HGood HFd
            rw [← HO0.out] at HN0
            clear HO0
            go_wp2_with fail
            refine HUs.out.mono ?_
            rintro e _ ⟨rfl, rfl⟩
            go_wp2_with fail
            refine HN0.out.mono ?_
            rintro e _ ⟨rfl, rfl⟩
            go_wp2_with fail
            clear hf0 hcz hc1 hle hneq hx0 HN0 HUs hkz
            go_loopw [9, 8] (fun i okv wr => ∃ q : Nat, q ≤ u.size ∧ i = .int .i64 q ∧ okv = .bool (okR ws q) ∧ Hid (Arr wr (w.heap.size + 1) 8 (F q)) ∧ Hid (Keep (fun x => x = w.heap.size + 1) W2 wr)) (fun i _ _ => u.size - (intOf i).toNat)
            case atStart => exact ⟨0, by omega, rfl, rfl, HA0, HK0⟩
            case round =>
              obtain ⟨q, hq, rfl, rfl, hA, hK⟩ := hrel
              clear HA0 HK0
              have hsy : w.heap.size + 2 ≤ wr.heap.size := by have := hK.out.size; omega
              by_cases hqu : q < u.size
              · obtain ⟨mm, hmm⟩ : ∃ mm : Nat, mm = 2 + q := ⟨_, rfl⟩
                have hm1 : (2 : Int) + (q : Int) = (mm : Int) := by omega
                have hm2 : IntKind.i64.wrap (mm : Int) = (mm : Int) := IntWalk.i64_in _ (by omega)
                have hm3 : (0 : Int) ≤ (mm : Int) := by omega
                have hm4 : mm < n := by have := HLn.out; omega
                have hm5 : (mm : Int) < (n : Int) := by omega
                have hxm := HC.out wr hK.out mm hm4
                have HNm := Lib.hid (HNum.out mm hm4 wr)
                have HOq := Lib.hid (HOS.out q)
                obtain ⟨hl1, hl2, hl3⟩ := HLet.out q hqu
                have HSq := Lib.hid (fun j hj => HSucc.out q hqu j hj)
                have HFz : Hid (∀ (v : Value) (ix : Nat), ix < 6 → v = .int .i64 (numR ws (2 + q)) → letterIx (u[q]'hqu) = ix → Arr (wr.setCell ⟨w.heap.size + 1, 2 + ix, none⟩ v) (w.heap.size + 1) 8 (F (q + 1))) := fun v ix hix hv hl => (hA.out.set (j0 := 2 + ix) (by omega) v).congr (fun j hj => by
                  rw [HFd.out]
                  show (if j = 2 + ix then v else if j = 0 then Value.int .i64 id else if j = 1 then .int .i64 (kk : Nat) else .int .i64 (fAt ul (numR ws) q (j - 2))) = (if j = 0 then Value.int .i64 id else if j = 1 then .int .i64 (kk : Nat) else .int .i64 (fAt ul (numR ws) (q + 1) (j - 2)))
                  by_cases e0 : j = 0
                  · rw [if_neg (by omega), if_pos e0, if_pos e0]
                  · rw [if_neg e0, if_neg e0]
                    by_cases e1 : j = 1
                    · rw [if_neg (by omega), if_pos e1, if_pos e1]
                    · rw [if_neg e1, if_neg e1, HSq.out (j - 2) (by omega), hl1, hl]
                      by_cases e2 : j = 2 + ix
                      · rw [if_pos e2, if_pos (by omega), hv]
                      · rw [if_neg e2, if_neg (by omega)])
                have hcy : ∀ ix, ix < 6 → wr.cell? ⟨w.heap.size + 1, 2 + ix, none⟩ = some (F q (2 + ix)) := fun ix hix => hA.out.cell (2 + ix) (by omega)
                have hfy : ∀ ix, ix < 6 → wr.frozen? ⟨w.heap.size + 1, 2 + ix, none⟩ = false := fun ix hix => hA.out.free (2 + ix) (by omega)
                have HCy := Lib.hid hcy
                have HFy := Lib.hid hfy
                have HKz : Hid (∀ (v : Value) (ix : Nat), Keep (fun x => x = w.heap.size + 1) W2 (wr.setCell ⟨w.heap.size + 1, 2 + ix, none⟩ v)) := fun v ix => hK.out.trans (keep_setCell wr ⟨w.heap.size + 1, 2 + ix, none⟩ v)
                have hi0 : (0 : Int) ≤ (q : Int) := by omega
                have hi1 : (q : Int) < (u.size : Int) := by omega
                have hq1 : IntKind.i64.wrap ((q : Int) + 1) = (q : Int) + 1 := IntWalk.i64_in _ (by omega)
                rw [← hmm] at HOq HFz
                have HHm := Lib.hid hmm
                clear hmm hcy hfy hA hK HSq hl1 HNum HSucc HBad HGood HV0
                generalize isR ws mm = t1 at *
                generalize numR ws mm = nz at *
                generalize ws.getD mm ⟨#[]⟩ = ym at *
                go_wp2_with fail
                refine HNm.out.mono ?_
                rintro e _ ⟨rfl, rfl⟩
                go_upto_region 18 with fail
                generalize okR ws q = ok0 at *
                generalize hok1 : okR ws (q + 1) = ok1 at *
                have HOk1 := Lib.hid hok1
                clear hok1
                go_cut [8] (fun v wx => v = .bool ok1 ∧ wr = wx)
                case first =>
                  cases ok0 <;> cases t1 <;> (go_wp2_with fail; go_meet; exact ⟨by rw [HOq.out]; rfl, rfl⟩)
                case rest =>
                  obtain ⟨rfl, rfl⟩ := hcut
                  clear HNm HOq
                  obtain ⟨ix, hix⟩ : ∃ ix, ix = letterIx (u[q]'hqu) := ⟨_, rfl⟩
                  rw [← hix] at hl2 hl3
                  have hc6 : ix = 0 ∨ ix = 1 ∨ ix = 2 ∨ ix = 3 ∨ ix = 4 ∨ ix = 5 := by omega
                  have HIx := Lib.hid hix
                  clear hix hl2
                  rcases hc6 with rfl | rfl | rfl | rfl | rfl | rfl
                  · have HA7 := Lib.hid (HFz.out (.int .i64 nz) 0 (by decide) rfl HIx.out.symm)
                    have HK7 := Lib.hid (HKz.out (.int .i64 nz) 0)
                    have hcj := HCy.out 0 (by decide)
                    have hfj := HFy.out 0 (by decide)
                    have hu : ((u[q]'hqu).toNat : Int) = 65 := by rw [← hl3]; rfl
                    simp only [Nat.reduceAdd] at HA7 HK7 hcj hfj
                    clear HFz HKz HCy HFy hl3 HIx
                    have ht0 : (((u[q]'hqu).toNat : Int) == 65) = true := by rw [hu]; rfl
                    clear hu
                    go_wp2_with fail
                    go_roundw
                    case rel => exact ⟨q + 1, by omega, by go_num, by rw [HOk1.out], HA7, HK7⟩
                    case measure => simp [intOf]; omega
                  · have HA7 := Lib.hid (HFz.out (.int .i64 nz) 1 (by decide) rfl HIx.out.symm)
                    have HK7 := Lib.hid (HKz.out (.int .i64 nz) 1)
                    have hcj := HCy.out 1 (by decide)
                    have hfj := HFy.out 1 (by decide)
                    have hu : ((u[q]'hqu).toNat : Int) = 66 := by rw [← hl3]; rfl
                    simp only [Nat.reduceAdd] at HA7 HK7 hcj hfj
                    clear HFz HKz HCy HFy hl3 HIx
                    have ht0 : (((u[q]'hqu).toNat : Int) == 65) = false := by rw [hu]; rfl
                    have ht1 : (((u[q]'hqu).toNat : Int) == 66) = true := by rw [hu]; rfl
                    clear hu
                    go_wp2_with fail
                    go_roundw
                    case rel => exact ⟨q + 1, by omega, by go_num, by rw [HOk1.out], HA7, HK7⟩
                    case measure => simp [intOf]; omega
                  · have HA7 := Lib.hid (HFz.out (.int .i64 nz) 2 (by decide) rfl HIx.out.symm)
                    have HK7 := Lib.hid (HKz.out (.int .i64 nz) 2)
                    have hcj := HCy.out 2 (by decide)
                    have hfj := HFy.out 2 (by decide)
                    have hu : ((u[q]'hqu).toNat : Int) = 67 := by rw [← hl3]; rfl
                    simp only [Nat.reduceAdd] at HA7 HK7 hcj hfj
                    clear HFz HKz HCy HFy hl3 HIx
                    have ht0 : (((u[q]'hqu).toNat : Int) == 65) = false := by rw [hu]; rfl
                    have ht1 : (((u[q]'hqu).toNat : Int) == 66) = false := by rw [hu]; rfl
                    have ht2 : (((u[q]'hqu).toNat : Int) == 67) = true := by rw [hu]; rfl
                    clear hu
                    go_wp2_with fail
                    go_roundw
                    case rel => exact ⟨q + 1, by omega, by go_num, by rw [HOk1.out], HA7, HK7⟩
                    case measure => simp [intOf]; omega
                  · have HA7 := Lib.hid (HFz.out (.int .i64 nz) 3 (by decide) rfl HIx.out.symm)
                    have HK7 := Lib.hid (HKz.out (.int .i64 nz) 3)
                    have hcj := HCy.out 3 (by decide)
                    have hfj := HFy.out 3 (by decide)
                    have hu : ((u[q]'hqu).toNat : Int) = 68 := by rw [← hl3]; rfl
                    simp only [Nat.reduceAdd] at HA7 HK7 hcj hfj
                    clear HFz HKz HCy HFy hl3 HIx
                    have ht0 : (((u[q]'hqu).toNat : Int) == 65) = false := by rw [hu]; rfl
                    have ht1 : (((u[q]'hqu).toNat : Int) == 66) = false := by rw [hu]; rfl
                    have ht2 : (((u[q]'hqu).toNat : Int) == 67) = false := by rw [hu]; rfl
                    have ht3 : (((u[q]'hqu).toNat : Int) == 68) = true := by rw [hu]; rfl
                    clear hu
                    go_wp2_with fail
                    go_roundw
                    case rel => exact ⟨q + 1, by omega, by go_num, by rw [HOk1.out], HA7, HK7⟩
                    case measure => simp [intOf]; omega
                  · have HA7 := Lib.hid (HFz.out (.int .i64 nz) 4 (by decide) rfl HIx.out.symm)
                    have HK7 := Lib.hid (HKz.out (.int .i64 nz) 4)
                    have hcj := HCy.out 4 (by decide)
                    have hfj := HFy.out 4 (by decide)
                    have hu : ((u[q]'hqu).toNat : Int) = 78 := by rw [← hl3]; rfl
                    simp only [Nat.reduceAdd] at HA7 HK7 hcj hfj
                    clear HFz HKz HCy HFy hl3 HIx
                    have ht0 : (((u[q]'hqu).toNat : Int) == 65) = false := by rw [hu]; rfl
                    have ht1 : (((u[q]'hqu).toNat : Int) == 66) = false := by rw [hu]; rfl
                    have ht2 : (((u[q]'hqu).toNat : Int) == 67) = false := by rw [hu]; rfl
                    have ht3 : (((u[q]'hqu).toNat : Int) == 68) = false := by rw [hu]; rfl
                    have ht4 : (((u[q]'hqu).toNat : Int) == 78) = true := by rw [hu]; rfl
                    clear hu
                    go_wp2_with fail
                    go_roundw
                    case rel => exact ⟨q + 1, by omega, by go_num, by rw [HOk1.out], HA7, HK7⟩
                    case measure => simp [intOf]; omega
                  · have HA7 := Lib.hid (HFz.out (.int .i64 nz) 5 (by decide) rfl HIx.out.symm)
                    have HK7 := Lib.hid (HKz.out (.int .i64 nz) 5)
                    have hcj := HCy.out 5 (by decide)
                    have hfj := HFy.out 5 (by decide)
                    have hu : ((u[q]'hqu).toNat : Int) = 77 := by rw [← hl3]; rfl
                    simp only [Nat.reduceAdd] at HA7 HK7 hcj hfj
                    clear HFz HKz HCy HFy hl3 HIx
                    have ht0 : (((u[q]'hqu).toNat : Int) == 65) = false := by rw [hu]; rfl
                    have ht1 : (((u[q]'hqu).toNat : Int) == 66) = false := by rw [hu]; rfl
                    have ht2 : (((u[q]'hqu).toNat : Int) == 67) = false := by rw [hu]; rfl
                    have ht3 : (((u[q]'hqu).toNat : Int) == 68) = false := by rw [hu]; rfl
                    have ht4 : (((u[q]'hqu).toNat : Int) == 78) = false := by rw [hu]; rfl
                    have ht5 : (((u[q]'hqu).toNat : Int) == 77) = true := by rw [hu]; rfl
                    clear hu
                    go_wp2_with fail
                    go_roundw
                    case rel => exact ⟨q + 1, by omega, by go_num, by rw [HOk1.out], HA7, HK7⟩
                    case measure => simp [intOf]; omega
              · obtain rfl : q = u.size := by omega
                have HTr := Lib.hid (there_keep1 HT1.out (by omega) hK.out (by omega))
                have HBr := Lib.hid (HB2.out.trans (hK.out.below (B := w.heap.size) (by omega) (fun j hj e => by omega)))
                have hsr : w.heap.size + 2 ≤ wr.heap.size := by have := hK.out.size; omega
                clear hK HSucc HLet HNum HC HOS
                cases hok : okR ws u.size with
                | false =>
                  have HW119 := Lib.hid (HBad.out hok)
                  clear HBad HGood hok hA HV0 HFd
                  obtain ⟨W9, hW9⟩ : ∃ W9, W9 = wr.setCells w.heap.size 0 zero8 := ⟨_, rfl⟩
                  have hr8 : W9.rangeAt w.heap.size 0 zero8 := by rw [hW9]; exact World.rangeAt_setCells_same _ _ _ _ HTr.out
                  have HBE : Hid (Below w.heap.size w W9) := by
                    have hk : Keep (fun x => x = w.heap.size) wr W9 := by rw [hW9]; exact keep_setCells _ _ _ _
                    exact HBr.out.trans (hk.below (by omega) (fun j hj e => by omega))
                  have HW9 := Lib.hid hW9
                  clear hW9
                  go_wp2_with (refine wpList_store_mid rfl 23 _ _ rfl w.heap.size 0 #[.int .i64 0, .int .i64 0, .int .i64 0, .int .i64 0, .int .i64 0, .int .i64 0, .int .i64 0, .int .i64 0] rfl rfl HTr.out (by kernel_rfl) (by simp [Value.oneCell']) ?_; rw [← HW9.out])
                  have c0 := hr8 0 _ rfl; have c1 := hr8 1 _ rfl; have c2 := hr8 2 _ rfl; have c3 := hr8 3 _ rfl; have c4 := hr8 4 _ rfl; have c5 := hr8 5 _ rfl; have c6 := hr8 6 _ rfl; have c7 := hr8 7 _ rfl
                  rw [HW119.out]
                  exact bodyPost_ret (v := .tuple #[opV 0 0 0 0 0 0 0 0, .int .i64 119]) (by simp [results, Tryz.results18, go_sem, c0, c1, c2, c3, c4, c5, c6, c7]) rfl ⟨rfl, HBE.out⟩
                | true =>
                  have HGd := Lib.hid (HGood.out hok)
                  rw [HV0.out] at HGd
                  have hcl : ∀ j, j < 8 → wr.cell? ⟨w.heap.size + 1, j, none⟩ = some (F u.size j) := fun j hj => hA.out.cell j hj
                  rw [HFd.out] at hcl
                  have g0 : wr.cell? ⟨w.heap.size + 1, 0, none⟩ = some (.int .i64 id) := hcl 0 (by decide)
                  have g1 : wr.cell? ⟨w.heap.size + 1, 1, none⟩ = some (.int .i64 (kk : Nat)) := hcl 1 (by decide)
                  have g2 : wr.cell? ⟨w.heap.size + 1, 2, none⟩ = some (.int .i64 (fAt ul (numR ws) u.size 0)) := hcl 2 (by decide)
                  have g3 : wr.cell? ⟨w.heap.size + 1, 3, none⟩ = some (.int .i64 (fAt ul (numR ws) u.size 1)) := hcl 3 (by decide)
                  have g4 : wr.cell? ⟨w.heap.size + 1, 4, none⟩ = some (.int .i64 (fAt ul (numR ws) u.size 2)) := hcl 4 (by decide)
                  have g5 : wr.cell? ⟨w.heap.size + 1, 5, none⟩ = some (.int .i64 (fAt ul (numR ws) u.size 3)) := hcl 5 (by decide)
                  have g6 : wr.cell? ⟨w.heap.size + 1, 6, none⟩ = some (.int .i64 (fAt ul (numR ws) u.size 4)) := hcl 6 (by decide)
                  have g7 : wr.cell? ⟨w.heap.size + 1, 7, none⟩ = some (.int .i64 (fAt ul (numR ws) u.size 5)) := hcl 7 (by decide)
                  clear HBad HGood hok hA HV0 HFd hcl
                  generalize fAt ul (numR ws) u.size 0 = x0 at *
                  generalize fAt ul (numR ws) u.size 1 = x1 at *
                  generalize fAt ul (numR ws) u.size 2 = x2 at *
                  generalize fAt ul (numR ws) u.size 3 = x3 at *
                  generalize fAt ul (numR ws) u.size 4 = x4 at *
                  generalize fAt ul (numR ws) u.size 5 = x5 at *
                  have HVc := Lib.hid (refValid_calls id (kk : Nat) x0 x1 x2 x3 x4 x5 wr)
                  generalize validC id (kk : Nat) x0 x1 x2 x3 x4 x5 = vc at *
                  have hlw : w.heap.size + 1 < wr.heap.size := by omega
                  go_wp2_with fail
                  refine HVc.out.mono ?_
                  rintro e w5 ⟨rfl, hb⟩
                  have HTr := Lib.hid (World.there.below HTr.out (by omega) hb)
                  have HBr := Lib.hid (bbase HBr.out hb)
                  have hs5 : w.heap.size + 2 ≤ w5.heap.size := by have := hb.size; omega
                  have p0 := (hb.cell (p := ⟨w.heap.size + 1, 0, none⟩) hlw).trans g0
                  have p1 := (hb.cell (p := ⟨w.heap.size + 1, 1, none⟩) hlw).trans g1
                  have p2 := (hb.cell (p := ⟨w.heap.size + 1, 2, none⟩) hlw).trans g2
                  have p3 := (hb.cell (p := ⟨w.heap.size + 1, 3, none⟩) hlw).trans g3
                  have p4 := (hb.cell (p := ⟨w.heap.size + 1, 4, none⟩) hlw).trans g4
                  have p5 := (hb.cell (p := ⟨w.heap.size + 1, 5, none⟩) hlw).trans g5
                  have p6 := (hb.cell (p := ⟨w.heap.size + 1, 6, none⟩) hlw).trans g6
                  have p7 := (hb.cell (p := ⟨w.heap.size + 1, 7, none⟩) hlw).trans g7
                  clear hb g0 g1 g2 g3 g4 g5 g6 g7 HVc hlw
                  by_cases hv : vc = 0
                  · subst hv
                    have HGd2 : Hid (rv = .tuple #[opV id (kk : Nat) x0 x1 x2 x3 x4 x5, .int .i64 0]) := HGd.out
                    rw [show codeV 0 = 0 from rfl]
                    clear HGd
                    obtain ⟨W9, hW9⟩ : ∃ W9, W9 = w5.setCells w.heap.size 0 [.int .i64 id, .int .i64 (kk : Nat), .int .i64 x0, .int .i64 x1, .int .i64 x2, .int .i64 x3, .int .i64 x4, .int .i64 x5] := ⟨_, rfl⟩
                    have hr8 : W9.rangeAt w.heap.size 0 [.int .i64 id, .int .i64 (kk : Nat), .int .i64 x0, .int .i64 x1, .int .i64 x2, .int .i64 x3, .int .i64 x4, .int .i64 x5] := by rw [hW9]; exact World.rangeAt_setCells_same _ _ _ _ HTr.out
                    have HBE : Hid (Below w.heap.size w W9) := by
                      have hk : Keep (fun x => x = w.heap.size) w5 W9 := by rw [hW9]; exact keep_setCells _ _ _ _
                      exact HBr.out.trans (hk.below (by omega) (fun j hj e => by omega))
                    have HW9 := Lib.hid hW9
                    clear hW9
                    go_wp2_with (refine wpList_store_mid rfl 23 _ _ rfl w.heap.size 0 #[.int .i64 id, .int .i64 (kk : Nat), .int .i64 x0, .int .i64 x1, .int .i64 x2, .int .i64 x3, .int .i64 x4, .int .i64 x5] rfl rfl HTr.out (by kernel_rfl) (by simp [Value.oneCell']) ?_; rw [← HW9.out])
                    have c0 := hr8 0 _ rfl; have c1 := hr8 1 _ rfl; have c2 := hr8 2 _ rfl; have c3 := hr8 3 _ rfl; have c4 := hr8 4 _ rfl; have c5 := hr8 5 _ rfl; have c6 := hr8 6 _ rfl; have c7 := hr8 7 _ rfl
                    rw [HGd2.out]
                    exact bodyPost_ret (v := .tuple #[opV id (kk : Nat) x0 x1 x2 x3 x4 x5, .int .i64 0]) (by simp [results, Tryz.results18, go_sem, c0, c1, c2, c3, c4, c5, c6, c7]) rfl ⟨rfl, HBE.out⟩
                  · have hcv : ¬ codeV vc = 0 := by unfold codeV; split <;> first | omega | simp_all
                    have hcb : (((codeV vc : Nat) : Int) != 0) = true := by simp; omega
                    have HGd2 : Hid (rv = .tuple #[opV 0 0 0 0 0 0 0 0, .int .i64 (codeV vc : Nat)]) := by
                      have h := HGd.out
                      rw [if_neg hv] at h
                      exact h
                    clear HGd
                    generalize codeV vc = cv at *
                    obtain ⟨W9, hW9⟩ : ∃ W9, W9 = w5.setCells w.heap.size 0 zero8 := ⟨_, rfl⟩
                    have hr8 : W9.rangeAt w.heap.size 0 zero8 := by rw [hW9]; exact World.rangeAt_setCells_same _ _ _ _ HTr.out
                    have HBE : Hid (Below w.heap.size w W9) := by
                      have hk : Keep (fun x => x = w.heap.size) w5 W9 := by rw [hW9]; exact keep_setCells _ _ _ _
                      exact HBr.out.trans (hk.below (by omega) (fun j hj e => by omega))
                    have HW9 := Lib.hid hW9
                    clear hW9
                    go_wp2_with (refine wpList_store_mid rfl 23 _ _ rfl w.heap.size 0 #[.int .i64 0, .int .i64 0, .int .i64 0, .int .i64 0, .int .i64 0, .int .i64 0, .int .i64 0, .int .i64 0] rfl rfl HTr.out (by kernel_rfl) (by simp [Value.oneCell']) ?_; rw [← HW9.out])
                    have c0 := hr8 0 _ rfl; have c1 := hr8 1 _ rfl; have c2 := hr8 2 _ rfl; have c3 := hr8 3 _ rfl; have c4 := hr8 4 _ rfl; have c5 := hr8 5 _ rfl; have c6 := hr8 6 _ rfl; have c7 := hr8 7 _ rfl
                    rw [HGd2.out]
                    exact bodyPost_ret (v := .tuple #[opV 0 0 0 0 0 0 0 0, .int .i64 (cv : Nat)]) (by simp [results, Tryz.results18, go_sem, c0, c1, c2, c3, c4, c5, c6, c7]) rfl ⟨rfl, HBE.out⟩

end Go.Proofs.YtchbkceconlbkaaGreatDoor
