/- Numbers as words: what strconv.ParseInt and strconv.FormatInt say of the words of up to eighteen digits. Plain Lean, no program. -/
import Derived.Lib.ParseIntB
import Derived.Lib.ItoaNum
namespace Go.Proofs.YtchbkceconlbkaaGreatDoor

def dig (c : UInt8) : Bool := decide (48 ≤ c.toNat) && decide (c.toNat ≤ 57)
/-- What digits spell. -/
def valD (l : List UInt8) : Nat := l.foldl (fun acc c => acc * 10 + (c.toNat - 48)) 0
/-- Digits alone, one at least, no nought ahead of others. -/
def canon (l : List UInt8) : Bool := !l.isEmpty && l.all dig && (l.head? != some 48 || l.length == 1)

theorem valD_append (l : List UInt8) (c : UInt8) : valD (l ++ [c]) = valD l * 10 + (c.toNat - 48) := by simp [valD]
theorem ofNat_digit {d : Nat} (h : d < 10) : (UInt8.ofNat (48 + d)).toNat = 48 + d := by
  simp only [UInt8.toNat_ofNat']
  omega
theorem dec_dig (n : Nat) : (Go.Lib.decDigits n).all dig = true := by
  induction n using Go.Lib.decDigits.induct with
  | case1 u h =>
    rw [Go.Lib.decDigits, dif_pos h]
    simp [dig]; omega
  | case2 u h ih =>
    rw [Go.Lib.decDigits, dif_neg h, List.all_append, ih]
    have hm : u % 10 < 10 := Nat.mod_lt _ (by decide)
    simp [dig]; omega
theorem dec_val (n : Nat) : valD (Go.Lib.decDigits n) = n := by
  induction n using Go.Lib.decDigits.induct with
  | case1 u h =>
    rw [Go.Lib.decDigits, dif_pos h]
    simp [valD]; omega
  | case2 u h ih =>
    rw [Go.Lib.decDigits, dif_neg h, valD_append, ih, ofNat_digit (Nat.mod_lt _ (by decide))]
    omega
theorem dec_ne (n : Nat) : Go.Lib.decDigits n ≠ [] := by
  rw [Go.Lib.decDigits]
  split <;> simp
theorem dec_head (n : Nat) (h : 0 < n) : (Go.Lib.decDigits n).head? ≠ some 48 := by
  induction n using Go.Lib.decDigits.induct with
  | case1 u h10 =>
    rw [Go.Lib.decDigits, dif_pos h10]
    intro e
    simp only [List.head?_cons, Option.some.injEq] at e
    have := congrArg UInt8.toNat e
    rw [ofNat_digit h10] at this
    have h2 : (48 : UInt8).toNat = 48 := rfl
    omega
  | case2 u h10 ih =>
    rw [Go.Lib.decDigits, dif_neg h10]
    have hne := dec_ne (u / 10)
    have h2 := ih (by omega)
    cases hd : Go.Lib.decDigits (u / 10) with
    | nil => exact absurd hd hne
    | cons x r =>
      rw [hd] at h2
      simpa using h2
theorem dec_canon (n : Nat) : canon (Go.Lib.decDigits n) = true := by
  unfold canon
  rw [dec_dig]
  have h1 : (Go.Lib.decDigits n).isEmpty = false := by
    cases h : Go.Lib.decDigits n with
    | nil => exact absurd h (dec_ne n)
    | cons _ _ => rfl
  rw [h1]
  by_cases h : n < 10
  · have : (Go.Lib.decDigits n).length = 1 := by rw [Go.Lib.decDigits, dif_pos h]; rfl
    simp [this]
  · have := dec_head n (by omega)
    simp [this]

/-- Two texts in canonical form that spell the same number are the same. -/
theorem valD_cons (c : UInt8) (l : List UInt8) : valD (c :: l) = (c.toNat - 48) * 10 ^ l.length + valD l := by
  have gen : ∀ (l : List UInt8) (a : Nat), l.foldl (fun acc c => acc * 10 + (c.toNat - 48)) a = a * 10 ^ l.length + valD l := by
    intro l
    induction l with
    | nil => intro a; simp [valD]
    | cons d l ih =>
      intro a
      have h0 : valD (d :: l) = l.foldl (fun acc c => acc * 10 + (c.toNat - 48)) (0 * 10 + (d.toNat - 48)) := rfl
      rw [List.foldl_cons, ih, h0, ih, List.length_cons, Nat.pow_succ]
      simp only [Nat.zero_mul, Nat.zero_add, Nat.add_mul]
      rw [Nat.mul_assoc, Nat.mul_comm 10, Nat.add_assoc]
  have h0 : valD (c :: l) = l.foldl (fun acc c => acc * 10 + (c.toNat - 48)) (0 * 10 + (c.toNat - 48)) := rfl
  rw [h0, gen]
  simp
theorem valD_lt (l : List UInt8) (h : l.all dig = true) : valD l < 10 ^ l.length := by
  induction l with
  | nil => simp [valD]
  | cons c l ih =>
    rw [List.all_cons, Bool.and_eq_true] at h
    have h1 := ih h.2
    have h2 : c.toNat - 48 ≤ 9 := by
      have := h.1
      simp only [dig, Bool.and_eq_true, decide_eq_true_eq] at this
      omega
    rw [valD_cons, List.length_cons, Nat.pow_succ]
    have := Nat.mul_le_mul_right (10 ^ l.length) h2
    omega
theorem dig_ofNat {c : UInt8} (h : dig c = true) : UInt8.ofNat (48 + (c.toNat - 48)) = c := by
  simp only [dig, Bool.and_eq_true, decide_eq_true_eq] at h
  rw [show 48 + (c.toNat - 48) = c.toNat by omega]
  simp
theorem canon_dec (l : List UInt8) (h : canon l = true) : Go.Lib.decDigits (valD l) = l := by
  obtain ⟨k, hk⟩ : ∃ k, k = l.length := ⟨_, rfl⟩
  induction k generalizing l with
  | zero =>
    have : l = [] := List.length_eq_zero_iff.1 hk.symm
    subst this
    simp [canon] at h
  | succ k ih =>
    have hne : l ≠ [] := by intro e; subst e; simp at hk
    obtain ⟨m, c, rfl⟩ : ∃ m c, l = m ++ [c] := ⟨l.dropLast, l.getLast hne, (List.dropLast_concat_getLast hne).symm⟩
    simp only [List.length_append, List.length_singleton] at hk
    simp only [canon, List.all_append, Bool.and_eq_true] at h
    obtain ⟨⟨_, hm, hc⟩, hh⟩ := h
    have hc' : dig c = true := by simpa using hc
    have hcd : c.toNat - 48 < 10 := by
      simp only [dig, Bool.and_eq_true, decide_eq_true_eq] at hc'
      omega
    rw [valD_append]
    cases m with
    | nil =>
      rw [Go.Lib.decDigits, dif_pos (by simp [valD]; omega)]
      simp [valD, dig_ofNat hc']
    | cons d m =>
      have hd : d ≠ 48 := by
        simp at hh
        intro e
        subst e
        simp at hh
      have hcn : canon (d :: m) = true := by simp [canon, hm, hd]
      have hpos : 0 < valD (d :: m) := by
        rw [valD_cons]
        have hdd : dig d = true := by simp at hm; exact hm.1
        simp only [dig, Bool.and_eq_true, decide_eq_true_eq] at hdd
        have h48 : d.toNat ≠ 48 := fun e => hd (UInt8.toNat_inj.1 (by rw [e]; rfl))
        have hp : 0 < 10 ^ m.length := Nat.pow_pos (by decide)
        have : 1 * 10 ^ m.length ≤ (d.toNat - 48) * 10 ^ m.length := Nat.mul_le_mul_right _ (by omega)
        omega
      rw [Go.Lib.decDigits, dif_neg (by omega)]
      rw [show (valD (d :: m) * 10 + (c.toNat - 48)) / 10 = valD (d :: m) by omega, show (valD (d :: m) * 10 + (c.toNat - 48)) % 10 = c.toNat - 48 by omega, dig_ofNat hc']
      rw [ih (d :: m) hcn (by simp only [List.length_cons] at hk ⊢; omega)]

theorem parseM_dig (M : Nat) (hM : M = 2 ^ 64 - 1) : ∀ (l : List UInt8) (acc : Nat), l.all dig = true → (acc + 1) * 10 ^ l.length ≤ 10 ^ 18 → Go.Lib.parseUintM M acc l = .ok (acc * 10 ^ l.length + valD l)
  | [], acc, _, _ => by simp [Go.Lib.parseUintM, valD]
  | c :: r, acc, h, hb => by
    rw [List.all_cons, Bool.and_eq_true] at h
    have hc := h.1
    simp only [dig, Bool.and_eq_true, decide_eq_true_eq] at hc
    rw [List.length_cons, Nat.pow_succ] at hb
    have hp : 1 ≤ 10 ^ r.length := Nat.pow_pos (by decide)
    have hacc : (acc + 1) * 10 ≤ 10 ^ 18 := by
      have h1 : (acc + 1) * 10 * 1 ≤ (acc + 1) * 10 * 10 ^ r.length := Nat.mul_le_mul_left _ hp
      have h2 : (acc + 1) * 10 * 10 ^ r.length = (acc + 1) * (10 ^ r.length * 10) := by rw [Nat.mul_assoc, Nat.mul_comm 10]
      omega
    rw [Go.Lib.parseUintM, if_pos hc, if_neg (by omega), if_neg (by omega), parseM_dig M hM r _ h.2 ?_]
    · rw [valD_cons, List.length_cons, Nat.pow_succ, Nat.add_mul, Nat.mul_assoc, Nat.mul_comm 10, Nat.add_assoc]
    · have h1 : (acc * 10 + (c.toNat - 48) + 1) * 10 ^ r.length ≤ ((acc + 1) * 10) * 10 ^ r.length := Nat.mul_le_mul_right _ (by omega)
      have h2 : (acc + 1) * 10 * 10 ^ r.length = (acc + 1) * (10 ^ r.length * 10) := by rw [Nat.mul_assoc, Nat.mul_comm 10]
      omega
theorem parse_canon (l : List UInt8) (h : canon l = true) (hl : l.length ≤ 18) : Go.Lib.parseIntB 64 l = .ok (valD l : Int) := by
  have hd : l.all dig = true := by simp only [canon, Bool.and_eq_true] at h; exact h.1.2
  have hp : 10 ^ l.length ≤ 10 ^ 18 := Nat.pow_le_pow_right (by decide) hl
  have hv := valD_lt l hd
  cases l with
  | nil => simp [canon] at h
  | cons c r =>
    have hc : dig c = true := by rw [List.all_cons, Bool.and_eq_true] at hd; exact hd.1
    simp only [dig, Bool.and_eq_true, decide_eq_true_eq] at hc
    have hu : Go.Lib.parseUintB 64 (c :: r) = .ok (valD (c :: r)) := by
      unfold Go.Lib.parseUintB
      rw [if_neg (by simp), parseM_dig _ rfl _ _ hd (by omega)]
      simp
    unfold Go.Lib.parseIntB
    simp only
    rw [if_neg (by omega), hu]
    simp only
    rw [if_neg (by omega), if_neg (by omega), if_neg (by omega)]

/-- What a word says as a number, and whether it is one. -/
def numW (s : List UInt8) : Int × Bool :=
  if 18 < s.length then (0, false) else
  match Go.Lib.parseIntB 64 s with
  | .ok v => (v, decide (0 ≤ v) && decide (Go.Lib.itoa v = s))
  | .syntax => (0, false)
  | .range => (Go.Lib.intSat 64 s, false)
def isNumW (s : List UInt8) : Bool := decide (s.length ≤ 18) && canon s
theorem numW_fits (s : List UInt8) : (numW s).2 = isNumW s := by
  unfold numW isNumW
  by_cases h18 : 18 < s.length
  · simp [h18]; intro; omega
  · rw [if_neg h18]
    cases hc : canon s with
    | true =>
      rw [parse_canon s hc (by omega)]
      have : Go.Lib.itoa (valD s : Int) = s := by
        unfold Go.Lib.itoa
        rw [if_neg (by omega), Int.toNat_natCast, canon_dec s hc]
      simp [this]; omega
    | false =>
      simp only [Bool.and_false]
      cases hp : Go.Lib.parseIntB 64 s with
      | ok v =>
        simp only [Bool.and_eq_false_iff, decide_eq_false_iff_not]
        by_cases hv : 0 ≤ v
        · refine .inr fun e => ?_
          unfold Go.Lib.itoa at e
          rw [if_neg (by omega)] at e
          rw [← e, dec_canon] at hc
          cases hc
        · exact .inl hv
      | «syntax» => rfl
      | range => rfl
theorem numW_val (s : List UInt8) (h : isNumW s = true) : (numW s).1 = (valD s : Int) := by
  simp only [isNumW, Bool.and_eq_true, decide_eq_true_eq] at h
  unfold numW
  rw [if_neg (by omega), parse_canon s h.2 h.1]
/-- A number's own text. -/
theorem isNumW_itoa {n : Int} (h0 : 0 ≤ n) (h1 : n < 1000000000000000000) : isNumW (Go.Lib.itoa n) = true ∧ (valD (Go.Lib.itoa n) : Int) = n := by
  have e : Go.Lib.itoa n = Go.Lib.decDigits n.toNat := by unfold Go.Lib.itoa; rw [if_neg (by omega)]
  rw [e, dec_val]
  refine ⟨?_, by omega⟩
  unfold isNumW
  rw [dec_canon, Bool.and_true, decide_eq_true_eq]
  rcases Nat.lt_or_ge 18 (Go.Lib.decDigits n.toNat).length with h | h
  · exfalso
    obtain ⟨c, r, hr⟩ : ∃ c r, Go.Lib.decDigits n.toNat = c :: r := by
      cases hd : Go.Lib.decDigits n.toNat with
      | nil => exact absurd hd (dec_ne _)
      | cons c r => exact ⟨c, r, rfl⟩
    have hv := dec_val n.toNat
    have hcn := dec_canon n.toNat
    have hdg := dec_dig n.toNat
    rw [hr] at hv hcn hdg h
    rw [valD_cons] at hv
    have hne : c ≠ 48 := by
      simp [canon] at hcn
      intro e
      subst e
      simp at hcn
      have := hcn.2
      subst this
      simp at h
    rw [List.all_cons, Bool.and_eq_true] at hdg
    have hcd := hdg.1
    simp only [dig, Bool.and_eq_true, decide_eq_true_eq] at hcd
    have h48 : c.toNat ≠ 48 := fun e => hne (UInt8.toNat_inj.1 (by rw [e]; rfl))
    rw [List.length_cons] at h
    have hp : 10 ^ 18 ≤ 10 ^ r.length := Nat.pow_le_pow_right (by decide) (by omega)
    have : 1 * 10 ^ r.length ≤ (c.toNat - 48) * 10 ^ r.length := Nat.mul_le_mul_right _ (by omega)
    omega
  · exact h
end Go.Proofs.YtchbkceconlbkaaGreatDoor
