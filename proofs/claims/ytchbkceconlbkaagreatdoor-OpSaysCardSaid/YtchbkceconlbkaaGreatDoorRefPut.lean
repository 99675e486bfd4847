/- pledgeref1.Put, pledgeref26.Bytes: numbers as bytes, by the reference. (Written by gen_refput.py.) -/
import Derived.Test.YtchbkceconlbkaaGreatDoorRefOp1
import Derived.Test.YtchbkceconlbkaaGreatDoorRefB
import Derived.Test.YtchbkceconlbkaaGreatDoorOpBytes
import Derived.Deep.DeepCutAuto
namespace Go.Proofs.YtchbkceconlbkaaGreatDoor
open Go Go.RowKit
set_option linter.unusedSimpArgs false
set_option linter.unusedVariables false

theorem and127 (z : Nat) (hz : z < 2 ^ 64) : bits .and .u64 (z : Int) 127 = ((z % 128 : Nat) : Int) := by
  have h := (bits_nat .u64 64 (by decide) (fun n h0 h1 => u64_wrap h0 (by simpa using h1)) z 127 hz (by decide)).1
  rw [show ((127 : Nat) : Int) = 127 from rfl] at h
  rw [h, show 127 = 2 ^ 7 - 1 from rfl, Nat.and_two_pow_sub_one_eq_mod]
theorem refOr (z : Nat) (hz : z < 2 ^ 64) : bits .or .u64 (bits .and .u64 (z : Int) 127) 128 = ((z % 128 + 128 : Nat) : Int) := by
  rw [and127 z hz]
  have hm : z % 128 < 128 := Nat.mod_lt _ (by decide)
  have h := (bits_nat .u64 64 (by decide) (fun n h0 h1 => u64_wrap h0 (by simpa using h1)) (z % 128) 128 (by omega) (by decide)).2
  rw [show ((128 : Nat) : Int) = 128 from rfl] at h
  rw [h]
  congr 1
  have key : ∀ m, m < 128 → m ||| 128 = m + 128 := by decide +kernel
  exact key _ hm
set_option maxHeartbeats 2000000 in
set_option maxRecDepth 100000 in
theorem refPut_calls {w : World} {v : Value} {xs : List Int} (hO : RdB w v xs) (n : Int) (h0 : 0 ≤ n) (h1 : n ≤ 4611686018427387904) (hl : xs.length ≤ 90000) :
    Calls Tryz.prog 31 #[v, .int .i64 n] w fun e w' => ∃ u, e = .returned u ∧ OwnB w.heap.size w' u (xs ++ bytesI (encZ (zz n))) ∧ Below w.heap.size w w' := by
  obtain ⟨z, hz⟩ : ∃ z : Nat, n = (z : Int) := ⟨n.toNat, by omega⟩
  subst hz
  have HC := Lib.hid (refBytes_calls hO (by omega))
  obtain ⟨v0, rfl⟩ : ∃ x, x = v := ⟨_, rfl⟩
  have hlt : decide ((z : Int) < 0) = false := decide_eq_false (by omega)
  clear hO
  obtain ⟨Z, hZ⟩ : ∃ Z, Z = zz (z : Int) := ⟨_, rfl⟩
  have hzz : zz (z : Int) = z * 2 := by unfold zz; rw [if_pos (by omega)]; omega
  rw [← hZ]
  have hZ2 : ((z : Int) * 2) = (Z : Int) := by omega
  have hZ64 : Z < 2 ^ 64 := by omega
  have HEnc : Hid (encZ Z = [] ++ encZ Z) := rfl
  have hx := xor0 Z hZ64
  clear hZ hzz
  go_enter Tryz.func31, Tryz.ntmps31
  go_wp2_with fail
  refine HC.out.mono ?_
  rintro e w1 ⟨u1, rfl, hO1, hb1⟩
  have HO1 : Hid (OwnB w.heap.size w1 u1 (xs ++ bytesI [])) := by rw [show xs ++ bytesI [] = xs by simp [bytesI]]; exact hO1
  have HB1 := Lib.hid hb1
  clear hO1 hb1
  go_wp2_with fail
  clear hx hZ2 h0 h1 hlt
  go_loopw [5, 6] (fun u zv wr => ∃ (Y : Nat) (done : List UInt8), Y < 2 ^ 64 ∧ zv = .int .u64 Y ∧ Hid (encZ Z = done ++ encZ Y) ∧ done.length ≤ 9 ∧ Y < 2 ^ (64 - 7 * done.length) ∧ Hid (OwnB w.heap.size wr u (xs ++ bytesI done)) ∧ Hid (Below w.heap.size w wr)) (fun _ zv _ => (intOf zv).toNat)
  case atStart => exact ⟨Z, [], hZ64, rfl, HEnc, by simp, by simpa using hZ64, HO1, HB1⟩
  case round =>
    obtain ⟨Y, done, hY, rfl, hE, hd, hY7, hO, hB⟩ := hrel
    clear HO1 HB1 HEnc
    have hsz := hB.out.size
    have hlx : Hid ((xs ++ bytesI done).length + 1 ≤ 1000000) := by unfold Hid; simp [bytesI]; omega
    by_cases h128 : 128 ≤ Y
    · have hge : decide ((Y : Int) ≥ 128) = true := decide_eq_true (by omega)
      have hor := refOr Y hY
      have HEnc : Hid (encZ Z = (done ++ [UInt8.ofNat (Y % 128 + 128)]) ++ encZ (Y / 128)) := by
        unfold Hid
        rw [hE.out]
        conv => lhs; rw [encZ, dif_neg (by omega)]
        simp
      have hby : ((Y % 128 + 128 : Nat) : Int) = ((UInt8.ofNat (Y % 128 + 128)).toNat : Int) := by rw [low_byte (by omega)]
      have HBy := Lib.hid hby
      clear hby
      go_wp2_with (at_builtin; refine wpList_appB rfl _ _ 24 rfl Tryz.underlying24 infoB w.heap.size _ (xs ++ bytesI done) [((Y : Int) % 128 + 128)] rfl (hO.out.alloc _) _ rfl (rdB_one wr _ _) hlx.out (by simp; omega) ?_)
      intro v5 w5 hO5 hk5
      have HO5 : Hid (OwnB w.heap.size w5 v5 (xs ++ bytesI (done ++ [UInt8.ofNat (Y % 128 + 128)]))) := by
        unfold Hid
        rw [bytesI_append]
        have e : bytesI [UInt8.ofNat (Y % 128 + 128)] = [((Y : Int) % 128 + 128)] := by
          show [((UInt8.ofNat (Y % 128 + 128)).toNat : Int)] = _
          rw [← HBy.out]
          simp
        rw [e]
        exact hO5
      have hblk := hO.out.block
      have HB5 : Hid (Below w.heap.size w w5) := hB.out.trans (Below.trans ((Below.refl _ _).alloc (by omega) _) (hk5.below (by simp; omega) (fun z hz e => by have := hblk z e; omega)))
      have hY1 : Y / 128 < 2 ^ (64 - 7 * (done ++ [UInt8.ofNat (Y % 128 + 128)]).length) := by
        have hd8 : done.length ≤ 8 := by
          rcases Nat.lt_or_ge 8 done.length with h | h
          · obtain h9 : done.length = 9 := by omega
            rw [h9] at hY7
            simp at hY7
            omega
          · exact h
        have h1 : 2 ^ (64 - 7 * done.length) = 2 ^ (64 - 7 * (done.length + 1)) * 128 := by
          rw [show 64 - 7 * done.length = (64 - 7 * (done.length + 1)) + 7 by omega, Nat.pow_add]
        rw [h1] at hY7
        rw [List.length_append, List.length_singleton]
        exact Nat.div_lt_of_lt_mul (by rw [Nat.mul_comm]; exact hY7)
      have hd9 : (done ++ [UInt8.ofNat (Y % 128 + 128)]).length ≤ 9 := by
        rw [List.length_append, List.length_singleton]
        rcases Nat.lt_or_ge 8 done.length with h | h
        · obtain h9 : done.length = 9 := by omega
          rw [h9] at hY7
          simp at hY7
          omega
        · omega
      clear hO5 hk5 hO hB hblk
      go_wp2_with fail
      go_roundw
      case rel => exact ⟨Y / 128, _, by omega, by go_num, HEnc, hd9, hY1, HO5, HB5⟩
      case measure => simp [intOf]; omega
    · have hge : decide ((Y : Int) ≥ 128) = false := decide_eq_false (by omega)
      have HEnc : Hid (encZ Z = done ++ [UInt8.ofNat Y]) := by
        unfold Hid
        rw [hE.out]
        conv => lhs; rw [encZ, dif_pos (by omega)]
      have hm : (Y : Int) % 256 = Y := by omega
      go_wp2_with (at_builtin; refine wpList_appB rfl _ _ 24 rfl Tryz.underlying24 infoB w.heap.size _ (xs ++ bytesI done) [(Y : Int)] rfl (hO.out.alloc _) _ rfl (rdB_one wr _ _) hlx.out (by simp; omega) ?_)
      intro v5 w5 hO5 hk5
      have HO5 : Hid (OwnB w.heap.size w5 v5 (xs ++ bytesI (encZ Z))) := by
        unfold Hid
        rw [HEnc.out, bytesI_append]
        have e : bytesI [UInt8.ofNat Y] = [(Y : Int)] := by
          show [((UInt8.ofNat Y).toNat : Int)] = _
          rw [low_byte (by omega)]
        rw [e]
        exact hO5
      have hblk := hO.out.block
      have HB5 : Hid (Below w.heap.size w w5) := hB.out.trans (Below.trans ((Below.refl _ _).alloc (by omega) _) (hk5.below (by simp; omega) (fun z hz e => by have := hblk z e; omega)))
      clear hO5 hk5 hO hB hblk
      go_wp2_with fail
      go_ret
      exact ⟨_, rfl, HO5.out, HB5.out⟩
end Go.Proofs.YtchbkceconlbkaaGreatDoor
