/- Numbers as bytes (package wire): how they are laid, what is read of any bytes, and that what was laid is read. Plain Lean, no program. -/
namespace Go.Proofs.YtchbkceconlbkaaGreatDoor

/-- A number of 64 bits as bytes: seven bits each, the least first. -/
def encZ (z : Nat) : List UInt8 := if h : z < 128 then [UInt8.ofNat z] else UInt8.ofNat (z % 128 + 128) :: encZ (z / 128)
termination_by z
decreasing_by omega
def zz (n : Int) : Nat := if 0 ≤ n then (2 * n).toNat else (-2 * n - 1).toNat
def unzz (z : Nat) : Int := if z % 2 = 0 then ((z / 2 : Nat) : Int) else -((z / 2 : Nat) : Int) - 1
theorem unzz_zz (n : Int) : unzz (zz n) = n := by unfold unzz zz; split <;> split <;> omega
theorem zz_lt {n : Int} (h0 : -9223372036854775808 ≤ n) (h1 : n ≤ 9223372036854775807) : zz n < 2 ^ 64 := by unfold zz; split <;> omega

inductive Dec where
  | fin : Dec
  | shape : Dec
  | ok : Nat → Nat → Dec
deriving DecidableEq
/-- What is read of bytes, i of them read already, z of them. -/
def decZ : List UInt8 → Nat → Nat → Dec
  | [], _, _ => .fin
  | c :: r, i, z =>
    if i = 9 ∧ 1 < c.toNat then .shape else
    if 128 ≤ c.toNat then decZ r (i + 1) (z + (c.toNat % 128) * 2 ^ (7 * i))
    else if c.toNat = 0 ∧ 0 < i then .shape else .ok (z + (c.toNat % 128) * 2 ^ (7 * i)) (i + 1)

theorem low_byte {z : Nat} (h : z < 256) : (UInt8.ofNat z).toNat = z := by
  simp only [UInt8.toNat_ofNat']
  omega
theorem encZ_ne (z : Nat) : encZ z ≠ [] := by
  rw [encZ]
  split <;> simp
theorem decZ_enc (z : Nat) : ∀ (i acc : Nat) (rest : List UInt8), i ≤ 9 → z < 2 ^ (64 - 7 * i) → (i = 0 ∨ 0 < z) → decZ (encZ z ++ rest) i acc = .ok (acc + z * 2 ^ (7 * i)) (i + (encZ z).length) := by
  induction z using encZ.induct with
  | case1 z h =>
    intro i acc rest hi hz h0
    rw [encZ, dif_pos h]
    simp only [List.cons_append, List.nil_append, decZ, low_byte (show z < 256 by omega), List.length_singleton]
    have h9 : ¬ (i = 9 ∧ 1 < z) := by
      rintro ⟨rfl, h1⟩
      simp at hz
      omega
    rw [if_neg h9, if_neg (by omega), if_neg (by omega), Nat.mod_eq_of_lt h]
  | case2 z h ih =>
    intro i acc rest hi hz h0
    have hi8 : i ≤ 8 := by
      rcases Nat.lt_or_ge 8 i with h8 | h8
      · obtain rfl : i = 9 := by omega
        simp at hz
        omega
      · exact h8
    have hm : z % 128 < 128 := Nat.mod_lt _ (by decide)
    rw [encZ, dif_neg h]
    simp only [List.cons_append, decZ, low_byte (show z % 128 + 128 < 256 by omega)]
    rw [if_neg (by omega), if_pos (by omega), ih (i + 1) _ rest (by omega) ?_ (by right; omega)]
    · rw [show (z % 128 + 128) % 128 = z % 128 by omega, List.length_cons, show 7 * (i + 1) = 7 + 7 * i by omega, Nat.pow_add]
      congr 1
      · rw [show (2 : Nat) ^ 7 = 128 from rfl, ← Nat.mul_assoc]
        have : z * 2 ^ (7 * i) = (z % 128 + z / 128 * 128) * 2 ^ (7 * i) := by congr 1; omega
        rw [this, Nat.add_mul]
        omega
      · omega
    · have h1 : 2 ^ (64 - 7 * i) = 2 ^ (64 - 7 * (i + 1)) * 128 := by
        rw [show 64 - 7 * i = (64 - 7 * (i + 1)) + 7 by omega, Nat.pow_add]
      rw [h1] at hz
      exact Nat.div_lt_of_lt_mul (by rw [Nat.mul_comm]; exact hz)
theorem decZ_cut (z : Nat) : ∀ (i acc m : Nat), i ≤ 9 → z < 2 ^ (64 - 7 * i) → m < (encZ z).length → decZ ((encZ z).take m) i acc = .fin := by
  induction z using encZ.induct with
  | case1 z h =>
    intro i acc m hi hz hm
    rw [encZ, dif_pos h] at hm ⊢
    simp only [List.length_singleton] at hm
    obtain rfl : m = 0 := by omega
    rfl
  | case2 z h ih =>
    intro i acc m hi hz hm
    have hi8 : i ≤ 8 := by
      rcases Nat.lt_or_ge 8 i with h8 | h8
      · obtain rfl : i = 9 := by omega
        simp at hz
        omega
      · exact h8
    have hm2 : z % 128 < 128 := Nat.mod_lt _ (by decide)
    rw [encZ, dif_neg h] at hm ⊢
    cases m with
    | zero => rfl
    | succ m =>
      simp only [List.length_cons] at hm
      simp only [List.take_succ_cons, decZ, low_byte (show z % 128 + 128 < 256 by omega)]
      rw [if_neg (by omega), if_pos (by omega), ih (i + 1) _ m (by omega) ?_ (by omega)]
      have h1 : 2 ^ (64 - 7 * i) = 2 ^ (64 - 7 * (i + 1)) * 128 := by
        rw [show 64 - 7 * i = (64 - 7 * (i + 1)) + 7 by omega, Nat.pow_add]
      rw [h1] at hz
      exact Nat.div_lt_of_lt_mul (by rw [Nat.mul_comm]; exact hz)

/-- A reader's next number from low to high: the number; its place and its first error (code, place) behind it. -/
def numStep (l : List UInt8) (lo hi : Int) (st : Nat × Option (Nat × Nat)) : Int × (Nat × Option (Nat × Nat)) :=
  match st.2 with
  | some _ => (0, st)
  | none =>
    match decZ (l.drop st.1) 0 0 with
    | .fin => (0, (st.1, some (101, st.1)))
    | .shape => (0, (st.1, some (102, st.1)))
    | .ok z k => if unzz z < lo ∨ hi < unzz z then (0, (st.1, some (103, st.1))) else (unzz z, (st.1 + k, none))
/-- The first q numbers of bytes, each from 0 to 2^62. -/
def readQ (l : List UInt8) : Nat → List Int × (Nat × Option (Nat × Nat))
  | 0 => ([], (0, none))
  | q + 1 => ((readQ l q).1 ++ [(numStep l 0 4611686018427387904 (readQ l q).2).1], (numStep l 0 4611686018427387904 (readQ l q).2).2)
theorem readQ_length (l : List UInt8) (q : Nat) : (readQ l q).1.length = q := by
  induction q with
  | zero => rfl
  | succ q ih => simp [readQ, ih]
/-- Numbers as bytes. -/
def numsB (ns : List Int) : List UInt8 := ns.flatMap fun n => encZ (zz n)
theorem numsB_append (a b : List Int) : numsB (a ++ b) = numsB a ++ numsB b := by simp [numsB]
theorem numsB_cons (n : Int) (b : List Int) : numsB (n :: b) = encZ (zz n) ++ numsB b := by simp [numsB]

def inR (n : Int) : Prop := 0 ≤ n ∧ n ≤ 4611686018427387904
theorem step_ok (a : List UInt8) (n : Int) (rest : List UInt8) (hn : inR n) : numStep (a ++ (encZ (zz n) ++ rest)) 0 4611686018427387904 (a.length, none) = (n, (a.length + (encZ (zz n)).length, none)) := by
  unfold numStep
  simp only [List.drop_left]
  rw [decZ_enc (zz n) 0 0 rest (by decide) (zz_lt (by have := hn.1; omega) (by have := hn.2; omega)) (.inl rfl)]
  simp only [Nat.zero_add, Nat.mul_zero, Nat.pow_zero, Nat.mul_one, unzz_zz]
  rw [if_neg (by have := hn.1; have := hn.2; omega)]
theorem readQ_nums (ns : List Int) (rest : List UInt8) (hns : ∀ n ∈ ns, inR n) : ∀ q, q ≤ ns.length → readQ (numsB ns ++ rest) q = (ns.take q, ((numsB (ns.take q)).length, none))
  | 0, _ => by simp [readQ, numsB]
  | q + 1, hq => by
    have hn : ns[q]? = some ns[q] := List.getElem?_eq_getElem (by omega)
    have hs : ns = ns.take q ++ (ns[q] :: ns.drop (q + 1)) := by
      rw [← List.drop_eq_getElem_cons (by omega), List.take_append_drop]
    have hb : numsB ns ++ rest = numsB (ns.take q) ++ (encZ (zz ns[q]) ++ (numsB (ns.drop (q + 1)) ++ rest)) := by
      conv => lhs; rw [hs]
      rw [numsB_append, numsB_cons]
      simp
    rw [readQ, readQ_nums ns rest hns q (by omega)]
    simp only
    rw [hb, step_ok _ _ _ (hns _ (List.getElem_mem _))]
    rw [List.take_add_one, hn, numsB_append]
    simp [numsB]
/-- Once an error, the same error. -/
theorem readQ_err {l : List UInt8} {q : Nat} {e : Nat × Nat} (h : (readQ l q).2.2 = some e) : ∀ k, (readQ l (q + k)).2.2 = some e
  | 0 => h
  | k + 1 => by
    have ih := readQ_err h k
    show (numStep l 0 4611686018427387904 (readQ l (q + k)).2).2.2 = some e
    unfold numStep
    rw [ih]
    exact ih
theorem cut_split : ∀ (ns : List Int) (m : Nat), m < (numsB ns).length → ∃ a n b m', ns = a ++ n :: b ∧ (numsB ns).take m = numsB a ++ (encZ (zz n)).take m' ∧ m' < (encZ (zz n)).length
  | [], m, h => by simp [numsB] at h
  | n :: ns, m, h => by
    rcases Nat.lt_or_ge m (encZ (zz n)).length with h1 | h1
    · refine ⟨[], n, ns, m, rfl, ?_, h1⟩
      rw [numsB_cons, List.take_append_of_le_length (by omega)]
      simp [numsB]
    · obtain ⟨a, n', b, m', e, h2, h3⟩ := cut_split ns (m - (encZ (zz n)).length) (by rw [numsB_cons, List.length_append] at h; omega)
      refine ⟨n :: a, n', b, m', by rw [e]; rfl, ?_, h3⟩
      rw [numsB_cons, numsB_cons, List.take_append, h2, List.take_of_length_le h1]
      simp
/-- Of the first bytes alone some error is read. -/
theorem readQ_cut (ns : List Int) (hns : ∀ n ∈ ns, inR n) (m : Nat) (hm : m < (numsB ns).length) : ∃ e, (readQ ((numsB ns).take m) ns.length).2.2 = some e := by
  obtain ⟨a, n, b, m', rfl, h2, h3⟩ := cut_split ns m hm
  have hr := readQ_nums a ((encZ (zz n)).take m') (fun x hx => hns x (by simp [hx])) a.length (Nat.le_refl _)
  rw [List.take_length] at hr
  rw [h2]
  have hn := hns n (by simp)
  have h4 : (readQ (numsB a ++ (encZ (zz n)).take m') (a.length + 1)).2.2 = some (101, (numsB a).length) := by
    show (numStep _ 0 4611686018427387904 (readQ (numsB a ++ (encZ (zz n)).take m') a.length).2).2.2 = _
    rw [hr]
    unfold numStep
    simp only [List.drop_left]
    rw [decZ_cut (zz n) 0 0 m' (by decide) (zz_lt (by have := hn.1; omega) (by have := hn.2; omega)) h3]
  have := readQ_err h4 b.length
  rw [show a.length + 1 + b.length = (a ++ n :: b).length by simp; omega] at this
  exact ⟨_, this⟩
theorem numsB_inj {a b : List Int} (ha : ∀ n ∈ a, inR n) (hb : ∀ n ∈ b, inR n) (hl : a.length = b.length) (h : numsB a = numsB b) : a = b := by
  have h1 := readQ_nums a [] ha a.length (Nat.le_refl _)
  have h2 := readQ_nums b [] hb b.length (Nat.le_refl _)
  rw [h, hl, h2] at h1
  have := congrArg Prod.fst h1
  simp only [List.take_length] at this
  rw [← hl, List.take_length] at this
  exact this.symm
end Go.Proofs.YtchbkceconlbkaaGreatDoor
