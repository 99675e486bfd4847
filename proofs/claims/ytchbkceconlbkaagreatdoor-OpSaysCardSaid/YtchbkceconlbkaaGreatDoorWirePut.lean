/- wire.put, wire.Put: numbers laid behind bytes of one's own. -/
import Derived.Test.YtchbkceconlbkaaGreatDoorBytA
import Derived.Test.YtchbkceconlbkaaGreatDoorWireLaw
import Derived.Test.YtchbkceconlbkaaGreatDoorRdI
import Derived.Deep.DeepCutAuto
namespace Go.Proofs.YtchbkceconlbkaaGreatDoor
open Go Go.RowKit
set_option linter.unusedSimpArgs false
set_option linter.unusedVariables false

/-- Bytes as the model's numbers. -/
def bytesI (l : List UInt8) : List Int := l.map fun c => (c.toNat : Int)
theorem bytesI_append (a b : List UInt8) : bytesI (a ++ b) = bytesI a ++ bytesI b := by simp [bytesI]
theorem low7 : ∀ m, m < 256 → bits .or .u8 ((m : Nat) : Int) 128 = ((m % 128 + 128 : Nat) : Int) := by decide +kernel
theorem or128 (z : Nat) : bits .or .u8 ((z : Int) % 256) 128 = ((z % 128 + 128 : Nat) : Int) := by
  have h := low7 (z % 256) (Nat.mod_lt _ (by decide))
  rw [show z % 256 % 128 = z % 128 by omega] at h
  rw [← h]
  congr 1
theorem u64_wrap {n : Int} (h0 : 0 ≤ n) (h1 : n < 18446744073709551616) : IntKind.u64.wrap n = n := by
  simp only [IntKind.wrap, IntKind.signed, IntKind.bits]
  first | omega | (simp; omega)
theorem xor0 (m : Nat) (hm : m < 2 ^ 64) : bits .xor .u64 (m : Int) 0 = (m : Int) := by
  have h0 : m % 2 ^ IntKind.u64.bits = m := Nat.mod_eq_of_lt hm
  have h1 : 0 % 2 ^ IntKind.u64.bits = 0 := Nat.zero_mod _
  rw [show (0 : Int) = ((0 : Nat) : Int) from rfl]
  simp only [bits, BitVec.ofInt_natCast, BitVec.toNat_xor, BitVec.toNat_ofNat, h0, h1, Nat.xor_zero]
  exact u64_wrap (by omega) (by omega)
set_option maxHeartbeats 2000000 in
set_option maxRecDepth 100000 in
theorem put_calls {base : Nat} {w : World} {v : Value} {xs : List Int} (hb : base ≤ w.heap.size) (hO : OwnB base w v xs) (n : Int) (h0 : 0 ≤ n) (h1 : n ≤ 4611686018427387904) (hl : xs.length ≤ 900000) :
    Calls Tryz.prog 52 #[v, .int .i64 n] w fun e w' => ∃ u, e = .returned u ∧ OwnB base w' u (xs ++ bytesI (encZ (zz n))) ∧ Below base w w' := by
  obtain ⟨z, hz⟩ : ∃ z : Nat, n = (z : Int) := ⟨n.toNat, by omega⟩
  subst hz
  have HO := Lib.hid hO
  clear hO
  have hq : (z : Int) / 9223372036854775808 = 0 := by omega
  obtain ⟨Z, hZ⟩ : ∃ Z, Z = zz (z : Int) := ⟨_, rfl⟩
  have hzz : zz (z : Int) = z * 2 := by unfold zz; rw [if_pos (by omega)]; omega
  rw [← hZ]
  have hZ2 : ((z : Int) * 2) = (Z : Int) := by omega
  have hZ64 : Z < 2 ^ 64 := by omega
  have HEnc : Hid (encZ Z = [] ++ encZ Z) := rfl
  have hx := xor0 Z hZ64
  clear hZ hzz
  go_enter Tryz.func52, Tryz.ntmps52
  go_wp2_with fail
  clear hq hx hZ2 h0 h1
  have hHO0 : Hid (OwnB base w v (xs ++ bytesI [])) := by rw [show xs ++ bytesI [] = xs by simp [bytesI]]; exact HO.out
  go_loopw [0, 5] (fun u zv wr => ∃ (Y : Nat) (done : List UInt8), Y < 2 ^ 64 ∧ zv = .int .u64 Y ∧ Hid (encZ Z = done ++ encZ Y) ∧ done.length ≤ 9 ∧ Y < 2 ^ (64 - 7 * done.length) ∧ Hid (OwnB base wr u (xs ++ bytesI done)) ∧ Hid (Below base w wr)) (fun _ zv _ => (intOf zv).toNat)
  case atStart => exact ⟨Z, [], hZ64, rfl, HEnc, by simp, by simpa using hZ64, hHO0, Below.refl _ _⟩
  case round =>
    obtain ⟨Y, done, hY, rfl, hE, hd, hY7, hO, hB⟩ := hrel
    clear hHO0 HEnc
    have hsz := hB.out.size
    have hlx : Hid ((xs ++ bytesI done).length + 1 ≤ 1000000) := by unfold Hid; simp [bytesI]; omega
    by_cases h128 : 128 ≤ Y
    · have hge : decide ((Y : Int) ≥ 128) = true := decide_eq_true (by omega)
      have hor := or128 Y
      have HEnc : Hid (encZ Z = (done ++ [UInt8.ofNat (Y % 128 + 128)]) ++ encZ (Y / 128)) := by
        unfold Hid
        rw [hE.out]
        conv => lhs; rw [encZ, dif_neg (by omega)]
        simp
      have hby : ((Y % 128 + 128 : Nat) : Int) = ((UInt8.ofNat (Y % 128 + 128)).toNat : Int) := by rw [low_byte (by omega)]
      have HBy := Lib.hid hby
      clear hby
      go_wp2_with (at_builtin; refine wpList_appB rfl _ _ 24 rfl Tryz.underlying24 infoB base _ (xs ++ bytesI done) [((Y : Int) % 128 + 128)] rfl (hO.out.alloc _) _ rfl (rdB_one wr _ _) hlx.out (by simp; omega) ?_)
      intro v5 w5 hO5 hk5
      have HO5 : Hid (OwnB base w5 v5 (xs ++ bytesI (done ++ [UInt8.ofNat (Y % 128 + 128)]))) := by
        unfold Hid
        rw [bytesI_append]
        have e : bytesI [UInt8.ofNat (Y % 128 + 128)] = [((Y : Int) % 128 + 128)] := by
          show [((UInt8.ofNat (Y % 128 + 128)).toNat : Int)] = _
          rw [← HBy.out]
          simp
        rw [e]
        exact hO5
      have hblk := hO.out.block
      have HB5 : Hid (Below base w w5) := hB.out.trans (Below.trans ((Below.refl _ _).alloc (by omega) _) (hk5.below (by simp; omega) (fun z hz e => by have := hblk z e; omega)))
      have hY1 : Y / 128 < 2 ^ (64 - 7 * (done ++ [UInt8.ofNat (Y % 128 + 128)]).length) := by
        have hd8 : done.length ≤ 8 := by
          rcases Nat.lt_or_ge 8 done.length with h | h
          · obtain h9 : done.length = 9 := by omega
            rw [h9] at hY7
            simp at hY7
            omega
          · exact h
        have h1 : 2 ^ (64 - 7 * done.length) = 2 ^ (64 - 7 * (done.length + 1)) * 128 := by
          rw [show 64 - 7 * done.length = (64 - 7 * (done.length + 1)) + 7 by omega, Nat.pow_add]
        rw [h1] at hY7
        rw [List.length_append, List.length_singleton]
        exact Nat.div_lt_of_lt_mul (by rw [Nat.mul_comm]; exact hY7)
      have hd9 : (done ++ [UInt8.ofNat (Y % 128 + 128)]).length ≤ 9 := by
        rw [List.length_append, List.length_singleton]
        rcases Nat.lt_or_ge 8 done.length with h | h
        · obtain h9 : done.length = 9 := by omega
          rw [h9] at hY7
          simp at hY7
          omega
        · omega
      clear hO5 hk5 hO hB hblk
      go_wp2_with fail
      go_roundw
      case rel => exact ⟨Y / 128, _, by omega, by go_num, HEnc, hd9, hY1, HO5, HB5⟩
      case measure => simp [intOf]; omega
    · have hge : decide ((Y : Int) ≥ 128) = false := decide_eq_false (by omega)
      have HEnc : Hid (encZ Z = done ++ [UInt8.ofNat Y]) := by
        unfold Hid
        rw [hE.out]
        conv => lhs; rw [encZ, dif_pos (by omega)]
      have hm : (Y : Int) % 256 = Y := by omega
      go_wp2_with (at_builtin; refine wpList_appB rfl _ _ 24 rfl Tryz.underlying24 infoB base _ (xs ++ bytesI done) [(Y : Int)] rfl (hO.out.alloc _) _ rfl (rdB_one wr _ _) hlx.out (by simp; omega) ?_)
      intro v5 w5 hO5 hk5
      have HO5 : Hid (OwnB base w5 v5 (xs ++ bytesI (encZ Z))) := by
        unfold Hid
        rw [HEnc.out, bytesI_append]
        have e : bytesI [UInt8.ofNat Y] = [(Y : Int)] := by
          show [((UInt8.ofNat Y).toNat : Int)] = _
          rw [low_byte (by omega)]
        rw [e]
        exact hO5
      have hblk := hO.out.block
      have HB5 : Hid (Below base w w5) := hB.out.trans (Below.trans ((Below.refl _ _).alloc (by omega) _) (hk5.below (by simp; omega) (fun z hz e => by have := hblk z e; omega)))
      clear hO5 hk5 hO hB hblk
      go_wp2_with fail
      go_ret
      exact ⟨_, rfl, HO5.out, HB5.out⟩
theorem encZ_len (k z : Nat) (h : z < 128 ^ (k + 1)) : (encZ z).length ≤ k + 1 := by
  induction k generalizing z with
  | zero =>
    rw [encZ, dif_pos (by simpa using h)]
    simp
  | succ k ih =>
    rw [encZ]
    split
    · simp
    · rw [List.length_cons]
      have := ih (z / 128) (Nat.div_lt_of_lt_mul (by rw [Nat.pow_succ] at h; rw [Nat.mul_comm]; exact h))
      omega
theorem numsB_len (ns : List Int) (h : ∀ n ∈ ns, inR n) : (numsB ns).length ≤ 10 * ns.length := by
  induction ns with
  | nil => simp [numsB]
  | cons n ns ih =>
    have h1 := ih (fun x hx => h x (by simp [hx]))
    have h2 := h n (by simp)
    have h3 := encZ_len 9 (zz n) (Nat.lt_of_lt_of_le (zz_lt (by have := h2.1; omega) (by have := h2.2; omega)) (by decide))
    rw [numsB_cons, List.length_append, List.length_cons]
    omega
theorem take_snocI {xs : List Int} {m : Nat} (h : m < xs.length) : xs.take (m + 1) = xs.take m ++ [xs.getD m 0] := by
  rw [List.take_add_one, List.getElem?_eq_getElem h]
  simp [List.getD, h]
set_option maxHeartbeats 2000000 in
set_option maxRecDepth 100000 in
theorem wirePut_calls {w : World} {v lv : Value} {xs ns : List Int} (hR : RdB w v xs) (hL : RdK .i64 w lv ns) (hns : ∀ n ∈ ns, inR n) (hl : xs.length ≤ 1000) (hln : ns.length ≤ 1000) :
    Calls Tryz.prog 24 #[v, lv] w fun e w' => ∃ u, e = .returned u ∧ OwnB w.heap.size w' u (xs ++ bytesI (numsB ns)) ∧ Below w.heap.size w w' := by
  have HC := Lib.hid (cloneB_calls hR (by omega))
  obtain ⟨la, lc, rfl, hlc, hcm⟩ := hL.len
  have HLR := Lib.hid hL
  have HN := Lib.hid hns
  clear hR hL hcm
  go_enter Tryz.func24, Tryz.ntmps24
  go_wp2_with fail
  refine HC.out.mono ?_
  rintro e w1 ⟨v1, rfl, hO, hb⟩
  have HO1 : Hid (OwnB w.heap.size w1 v1 (xs ++ bytesI (numsB (ns.take 0)))) := by
    unfold Hid; simpa [numsB, bytesI] using hO
  have HB1 := Lib.hid hb
  clear hO hb HC
  go_wp2_with fail
  go_loopw [11, 0] (fun i u wr => ∃ q : Nat, q ≤ ns.length ∧ i = .int .i64 q ∧ Hid (OwnB w.heap.size wr u (xs ++ bytesI (numsB (ns.take q)))) ∧ Hid (Below w.heap.size w wr)) (fun i _ _ => ns.length - (intOf i).toNat)
  case atStart => exact ⟨0, by omega, rfl, HO1, HB1⟩
  case round =>
    obtain ⟨q, hq, rfl, hO, hB⟩ := hrel
    clear HO1 HB1
    by_cases hqn : q < ns.length
    · rcases HLR.out with ⟨h0, _⟩ | ⟨g, off, cc, hvv, h1, h2, hg, hcell⟩
      · rw [h0] at hqn; simp at hqn
      simp only [Value.slice.injEq, true_and] at hvv
      obtain ⟨rfl, rfl⟩ := hvv
      have d0 := (hB.out.cell (p := ⟨g, off + q, none⟩) hg).trans (hcell q hqn)
      have hin : inR (ns.getD q 0) := by
        rw [List.getD, List.getElem?_eq_getElem hqn]
        exact HN.out _ (List.getElem_mem _)
      have hlen : (xs ++ bytesI (numsB (ns.take q))).length ≤ 900000 := by
        have h := numsB_len (ns.take q) (fun n hn => HN.out n (List.mem_of_mem_take hn))
        rw [List.length_take] at h
        simp only [List.length_append, bytesI, List.length_map]
        omega
      have HT : Hid (xs ++ bytesI (numsB (ns.take (q + 1))) = (xs ++ bytesI (numsB (ns.take q))) ++ bytesI (encZ (zz (ns.getD q 0)))) := by
        unfold Hid
        rw [take_snocI hqn, numsB_append, bytesI_append, List.append_assoc, show numsB [ns.getD q 0] = encZ (zz (ns.getD q 0)) by simp [numsB]]
      have HP := Lib.hid (put_calls hB.out.size hO.out (ns.getD q 0) hin.1 hin.2 hlen)
      generalize ns.getD q 0 = x at d0 HT HP
      clear hcell hin hlen
      go_wp2_with fail
      refine HP.out.mono ?_
      rintro e w5 ⟨v5, rfl, hO5, hb5⟩
      have HO5 : Hid (OwnB w.heap.size w5 v5 (xs ++ bytesI (numsB (ns.take (q + 1))))) := by rw [HT.out]; exact hO5
      have HB5 := Lib.hid (hB.out.trans hb5)
      clear hO5 hb5 hO hB HP
      go_wp2_with fail
      go_roundw
      case rel => exact ⟨q + 1, by omega, by go_num, HO5, HB5⟩
      case measure => simp [intOf]; omega
    · obtain rfl : q = ns.length := by omega
      have hO' := hO.out
      rw [List.take_length] at hO'
      have HO' := Lib.hid hO'
      clear hO' hO
      go_wp2_with fail
      go_ret
      exact ⟨_, rfl, HO'.out, hB.out⟩
end Go.Proofs.YtchbkceconlbkaaGreatDoor
