/- wire.Reader: NewReader, number, fail, Num, Left, At, Err. -/
import Derived.Test.YtchbkceconlbkaaGreatDoorWirePut
import Derived.Test.YtchbkceconlbkaaGreatDoorAt
import Derived.Deep.RegionHeld3
import Derived.Lib.EndianBits
namespace Go.Proofs.YtchbkceconlbkaaGreatDoor
open Go Go.RowKit
set_option linter.unusedSimpArgs false
set_option linter.unusedVariables false

/-- A reader at block rb: its bytes, its place, its first error (code, place). -/
structure Rdr (p : Nat → Addr) (w : World) (rb : Nat) (l : List UInt8) (st : Nat × Option (Nat × Nat)) : Prop where
  lt : rb < w.heap.size
  body : ∃ v, w.cell? ⟨rb, 0, none⟩ = some v ∧ RdB w v (bytesI l) ∧ ∀ g, v.ownBlock = some g → g < rb
  c1 : w.cell? ⟨rb, 1, none⟩ = some (.int .i64 st.1)
  c2 : (st.2 = none ∧ w.cell? ⟨rb, 2, none⟩ = some .nilIface) ∨ ∃ c q eb, st.2 = some (c, q) ∧ 101 ≤ c ∧ c ≤ 103 ∧ w.cell? ⟨rb, 2, none⟩ = some (atV eb) ∧ AtCells p w eb q (c - 101) ∧ eb ≠ rb
  f1 : w.frozen? ⟨rb, 1, none⟩ = false
  f2 : w.frozen? ⟨rb, 2, none⟩ = false
theorem Rdr.below {p : Nat → Addr} {w w' : World} {rb : Nat} {l : List UInt8} {st : Nat × Option (Nat × Nat)} (h : Rdr p w rb l st) (k : Below w.heap.size w w') : Rdr p w' rb l st := by
  refine ⟨Nat.lt_of_lt_of_le h.lt k.size, ?_, (k.cell (p := ⟨rb, 1, none⟩) h.lt).trans h.c1, ?_, (k.frozen (p := ⟨rb, 1, none⟩) h.lt).trans h.f1, (k.frozen (p := ⟨rb, 2, none⟩) h.lt).trans h.f2⟩
  · obtain ⟨v, h1, h2, h3⟩ := h.body
    exact ⟨v, (k.cell (p := ⟨rb, 0, none⟩) h.lt).trans h1, h2.below k, h3⟩
  · rcases h.c2 with ⟨h1, h2⟩ | ⟨c, q, eb, h1, h2, h3, h4, h5, h6⟩
    · exact .inl ⟨h1, (k.cell (p := ⟨rb, 2, none⟩) h.lt).trans h2⟩
    · exact .inr ⟨c, q, eb, h1, h2, h3, (k.cell (p := ⟨rb, 2, none⟩) h.lt).trans h4, h5.below k, h6⟩

theorem frozen_newB (w : World) (cs : Array Value) (T : TypeId) (i : Nat) : (w.alloc (.cells cs T)).frozen? ⟨w.heap.size, i, none⟩ = false := by
  simp only [World.frozen?, World.alloc, Array.getElem?_push, if_true]
  simp
theorem andNot7 : ∀ m, m < 256 → bits .andNot .u8 ((m : Nat) : Int) 128 = ((m % 128 : Nat) : Int) := by decide +kernel
theorem orU64 (i : Nat) (acc x : Nat) (h1 : acc < 2 ^ i) (h2 : acc < 2 ^ 64) (hx : x * 2 ^ i < 2 ^ 64) : bits .or .u64 (acc : Int) ((x * 2 ^ i : Nat) : Int) = ((acc + x * 2 ^ i : Nat) : Int) := by
  rw [bits_join_low .u64 64 (by decide) (fun n h0 h1 => u64_wrap h0 (by simpa using h1)) i (acc : Int) ((x * 2 ^ i : Nat) : Int) (by omega) (by exact_mod_cast h1) (by exact_mod_cast h2) (by omega) (by exact_mod_cast Nat.mul_mod_left x (2 ^ i)) (by exact_mod_cast hx)]
  push_cast
  rfl

set_option maxHeartbeats 2000000 in
set_option maxRecDepth 100000 in
theorem newReader_calls {p : Nat → Addr} {w : World} {v : Value} {l : List UInt8} (hR : RdB w v (bytesI l)) (hl : l.length ≤ 1000) :
    Calls Tryz.prog 35 #[v] w fun e w' => ∃ rb, e = .returned (.pointer (some ⟨rb, 0, none⟩)) ∧ w.heap.size ≤ rb ∧ Rdr p w' rb l (0, none) ∧ Below w.heap.size w w' := by
  have HC := Lib.hid (cloneB_calls hR (by simp [bytesI]; omega))
  clear hR
  go_enter Tryz.func35, Tryz.ntmps35
  go_wp2_with fail
  refine HC.out.mono ?_
  rintro e w1 ⟨v1, rfl, hO, hb⟩
  obtain ⟨a1, k1, rfl⟩ := hO.len
  have HO := Lib.hid hO
  have HB := Lib.hid hb
  clear hO hb HC
  go_wp2_with fail
  go_ret
  generalize hv1 : Value.slice a1 _ k1 = v1 at HO ⊢
  have hb2 : Below w1.heap.size w1 (w1.alloc (Obj.cells #[v1, .int .i64 0, .nilIface] 96)) := (Below.refl _ _).alloc (Nat.le_refl _) _
  refine ⟨w1.heap.size, rfl, HB.out.size, ⟨by simp, ⟨v1, cell_new _ _ _ 0, (HO.out.rd).below hb2, fun g hg => ?_⟩, cell_new _ _ _ 1, .inl ⟨rfl, cell_new _ _ _ 2⟩, frozen_newB _ _ _ _, frozen_newB _ _ _ _⟩, bbase HB.out hb2⟩
  have := World.ownsRow.lt HO.out g hg
  omega
theorem or_bound (i c : Nat) (hi : i ≤ 9) (hc : c < 256) (h9 : ¬ (i = 9 ∧ 1 < c)) : c % 128 * 2 ^ (7 * i) + 2 ^ (7 * i) ≤ 2 ^ 64 := by
  by_cases h : i = 9
  · have e : 7 * i = 63 := by omega
    have hx : c % 128 ≤ 1 := by omega
    have h2 : (2 : Nat) ^ 64 = 2 ^ 63 * 2 := by rw [← Nat.pow_succ]
    rw [e, h2]
    have h1 := Nat.mul_le_mul_right (2 ^ 63) hx
    generalize 2 ^ 63 = P at *
    omega
  · have h1 : (c % 128 + 1) * 2 ^ (7 * i) ≤ 128 * 2 ^ (7 * i) := Nat.mul_le_mul_right _ (by omega)
    have h2 : 128 * 2 ^ (7 * i) = 2 ^ (7 * i + 7) := by rw [Nat.pow_add, Nat.mul_comm]
    have h3 : 2 ^ (7 * i + 7) ≤ 2 ^ 64 := Nat.pow_le_pow_right (by decide) (by omega)
    rw [Nat.add_mul, Nat.one_mul] at h1
    omega
theorem or_lt64 (i z c : Nat) (hi : i ≤ 9) (hz : z < 2 ^ (7 * i)) (hc : c < 256) (h9 : ¬ (i = 9 ∧ 1 < c)) : z + c % 128 * 2 ^ (7 * i) < 2 ^ 64 := by
  have := or_bound i c hi hc h9
  omega
theorem or_step (i z c : Nat) (hi : i ≤ 9) (hz : z < 2 ^ (7 * i)) (hc : c < 256) (h9 : ¬ (i = 9 ∧ 1 < c)) : bits .or .u64 (z : Int) (IntKind.u64.wrap ((c : Int) % 128 * 2 ^ (7 * i))) = ((z + c % 128 * 2 ^ (7 * i) : Nat) : Int) := by
  have hb := or_bound i c hi hc h9
  have hp : 0 < 2 ^ (7 * i) := Nat.pow_pos (by decide)
  have e : (c : Int) % 128 * 2 ^ (7 * i) = ((c % 128 * 2 ^ (7 * i) : Nat) : Int) := by push_cast; rfl
  rw [e, u64_wrap (by omega) (by omega)]
  exact orU64 (7 * i) z (c % 128) hz (by omega) (by omega)
theorem or_lt (i z c : Nat) (hz : z < 2 ^ (7 * i)) : z + c % 128 * 2 ^ (7 * i) < 2 ^ (7 * (i + 1)) := by
  have h1 : (c % 128 + 1) * 2 ^ (7 * i) ≤ 128 * 2 ^ (7 * i) := Nat.mul_le_mul_right _ (by omega)
  have h2 : 128 * 2 ^ (7 * i) = 2 ^ (7 * (i + 1)) := by rw [show 7 * (i + 1) = 7 * i + 7 by omega, Nat.pow_add, Nat.mul_comm]
  rw [Nat.add_mul, Nat.one_mul] at h1
  omega
theorem and1 (z : Nat) (hz : z < 2 ^ 64) : bits .and .u64 (z : Int) 1 = ((z % 2 : Nat) : Int) := by
  have h := (bits_nat .u64 64 (by decide) (fun n h0 h1 => u64_wrap h0 (by simpa using h1)) z 1 hz (by decide)).1
  rw [show ((1 : Nat) : Int) = 1 from rfl] at h
  rw [h, Nat.and_one_is_mod]
theorem xorM1 (x : Nat) (hx : x < 2 ^ 63) : bits .xor .i64 (x : Int) (-1) = -(x : Int) - 1 := by
  have h0 : BitVec.ofInt IntKind.i64.bits (-1) = BitVec.allOnes 64 := rfl
  have hx2 : x % 2 ^ 64 = x := Nat.mod_eq_of_lt (by omega)
  have e : (BitVec.ofInt 64 (x : Int) ^^^ BitVec.allOnes 64).toNat = 2 ^ 64 - 1 - x := by
    rw [BitVec.xor_allOnes, BitVec.toNat_not, BitVec.ofInt_natCast, BitVec.toNat_ofNat, hx2]
  have e2 : bits .xor .i64 (x : Int) (-1) = IntKind.i64.wrap ((BitVec.ofInt 64 (x : Int) ^^^ BitVec.allOnes 64).toNat) := rfl
  rw [e2, e]
  simp only [IntKind.wrap, IntKind.signed, IntKind.bits]
  simp
  omega
theorem xorI0 (x : Nat) (hx : x < 2 ^ 63) : bits .xor .i64 (x : Int) 0 = (x : Int) := by
  have h0 : x % 2 ^ IntKind.i64.bits = x := Nat.mod_eq_of_lt (by show x < 2 ^ 64; omega)
  have h1 : 0 % 2 ^ IntKind.i64.bits = 0 := Nat.zero_mod _
  rw [show (0 : Int) = ((0 : Nat) : Int) from rfl]
  simp only [bits, BitVec.ofInt_natCast, BitVec.toNat_xor, BitVec.toNat_ofNat, h0, h1, Nat.xor_zero]
  exact IntWalk.i64_in _ (by omega)
theorem unzz_bits (z : Nat) (hz : z < 2 ^ 64) : bits .xor .i64 ((z : Int) / 2) (-((z : Int) % 2)) = unzz z := by
  have hw : (z : Int) / 2 = ((z / 2 : Nat) : Int) := by omega
  rw [hw]
  unfold unzz
  by_cases h : z % 2 = 0
  · rw [if_pos h, show -((z : Int) % 2) = 0 by omega]
    exact xorI0 _ (by omega)
  · rw [if_neg h, show -((z : Int) % 2) = -1 by omega]
    exact xorM1 _ (by omega)
/-- What number says of a decoding. -/
def decV (p : Nat → Addr) : Dec → Value
  | .fin => .tuple #[.int .i64 0, .int .i64 0, ev p 0]
  | .shape => .tuple #[.int .i64 0, .int .i64 0, ev p 1]
  | .ok z k => .tuple #[.int .i64 (unzz z), .int .i64 k, .nilIface]
set_option maxHeartbeats 8000000 in
set_option maxRecDepth 100000 in
theorem rdNumber_calls {B : Nat} {p : Nat → Addr} {w : World} (hE : Errs (List.range 21) B p w) {rb : Nat} {l : List UInt8} {st : Nat × Option (Nat × Nat)} (hR : Rdr p w rb l st) (hat : st.1 ≤ l.length) (hl : l.length ≤ 1000) :
    Calls Tryz.prog 61 #[.pointer (some ⟨rb, 0, none⟩)] w fun e w' => e = .returned (decV p (decZ (l.drop st.1) 0 0)) ∧ Below w.heap.size w w' := by
  obtain ⟨v, hv0, hvR, hvb⟩ := hR.body
  have hlen : (bytesI l).length = l.length := by simp [bytesI]
  obtain ⟨va, vc, rfl, hvc, hvm⟩ := hvR.len
  rw [hlen] at hvc
  have hc0 := hv0
  rw [hlen] at hc0
  have hc1 := hR.c1
  have hlt := hR.lt
  have hg0 := hE.cell 0 (by decide)
  change w.cell? ⟨6, 0, none⟩ = some (ev p 0) at hg0
  have hg1 := hE.cell 1 (by decide)
  change w.cell? ⟨3, 0, none⟩ = some (ev p 1) at hg1
  have hgl0 : 6 < w.heap.size := Nat.lt_of_lt_of_le (hE.lt 0 (by decide)).1 hE.size
  have hgl1 : 3 < w.heap.size := Nat.lt_of_lt_of_le (hE.lt 1 (by decide)).1 hE.size
  have HVR := Lib.hid hvR
  obtain ⟨d, hd⟩ : ∃ d, d = decZ (l.drop st.1) 0 0 := ⟨_, rfl⟩
  rw [← hd]
  have HD : Hid (d = decZ (l.drop (st.1 + 0)) 0 0) := hd
  generalize st.1 = at0 at hc1 hat HD
  clear hd hv0 hvR hvb hE hvm hR
  go_enter Tryz.func61, Tryz.ntmps61
  go_wp2_with fail
  go_loopw [6, 5] (fun iv zv wr => ∃ (i z : Nat), i ≤ 9 ∧ iv = .int .i64 i ∧ zv = .int .u64 z ∧ Hid (d = decZ (l.drop (at0 + i)) i z) ∧ at0 + i ≤ l.length ∧ Hid (z < 2 ^ (7 * i)) ∧ Hid (Below w.heap.size w wr)) (fun iv _ _ => 10 - (intOf iv).toNat)
  case atStart => exact ⟨0, 0, by omega, rfl, rfl, HD, by omega, by simp [Hid], Below.refl _ _⟩
  case round =>
    obtain ⟨i, z, hi, rfl, rfl, hD, hle, hz, hB⟩ := hrel
    have e0 := (hB.out.cell (p := ⟨rb, 0, none⟩) hlt).trans hc0
    have e1 := (hB.out.cell (p := ⟨rb, 1, none⟩) hlt).trans hc1
    have x0 := (hB.out.cell (p := ⟨6, 0, none⟩) hgl0).trans hg0
    have x1 := (hB.out.cell (p := ⟨3, 0, none⟩) hgl1).trans hg1
    have hB' : ∀ nq, Hid (Below w.heap.size w (wr.drewN nq)) := fun nq => below_many hB.out nq
    obtain ⟨m, hm⟩ : ∃ m, m = at0 + i := ⟨_, rfl⟩
    have hmI : (at0 : Int) + (i : Int) = (m : Int) := by omega
    have hwm : IntKind.i64.wrap (m : Int) = m := IntWalk.i64_in _ (by omega)
    by_cases hend : m < l.length
    · have hge : decide ((m : Int) ≥ (l.length : Int)) = false := decide_eq_false (by omega)
      rcases HVR.out with ⟨_, h0⟩ | ⟨g, off, cc, hvv, h1, h2, hg, hcell⟩
      · have : (bytesI l).length = 0 := by rw [h0]; rfl
        omega
      simp only [Value.slice.injEq] at hvv
      obtain ⟨rfl, _, rfl⟩ := hvv
      have d0 := (hB.out.cell (p := ⟨g, off + m, none⟩) hg).trans (hcell m (by omega))
      have hby : (bytesI l).getD m 0 = ((l[m]'hend).toNat : Int) := by
        simp [bytesI, List.getD, hend]
      rw [hby] at d0
      have hcons : l.drop (at0 + i) = l[m]'hend :: l.drop (at0 + (i + 1)) := by
        rw [← hm, List.drop_eq_getElem_cons hend, show at0 + (i + 1) = m + 1 by omega]
      have HD1 := hD.out
      rw [hcons] at HD1
      simp only [decZ] at HD1
      have hc256 : (l[m]'hend).toNat < 256 := (l[m]'hend).toNat_lt
      have HI := Lib.hid hm
      clear hcell hby hcons hD hm
      generalize (l[m]'hend).toNat = c at d0 HD1 hc256
      have hm0 : (0 : Int) ≤ (m : Int) := by omega
      have hml : (m : Int) < (l.length : Int) := by omega
      by_cases hs9 : i = 9 ∧ 1 < c
      · obtain ⟨hi9, hc1⟩ := hs9
        rw [if_pos ⟨hi9, hc1⟩] at HD1
        have hcg : decide ((c : Int) > 1) = true := decide_eq_true (by omega)
        have hi9b : ((i : Int) == 9) = true := by simp; omega
        have HD1 := Lib.hid HD1
        clear hi9
        go_wp2_with fail
        go_quiet (fail)
        go_wp2_with fail
        go_quiet (fail)
        go_wp2_with fail
        go_quiet (fail)
        go_wp2_with fail
        refine bodyPost_ret (v := .tuple #[.int .i64 0, .int .i64 0, ev p 1]) (by simp [results, Tryz.results61, go_sem]) rfl ⟨by rw [HD1.out]; rfl, ?_⟩
        exact below_many (below_many hB.out _) _
      · rw [if_neg hs9] at HD1
        have HD1 := Lib.hid HD1
        have HS9 := Lib.hid hs9
        clear hs9
        go_wp2_with fail
        go_quiet (fail)
        go_wp2_with fail
        go_quiet (fail)
        go_upto_region 7 with fail
        go_cut [40] (fun v wx => v = .bool false ∧ Hid (Below w.heap.size w wx))
        case first =>
          by_cases hi9 : i = 9
          · have hi9b : ((i : Int) == 9) = true := by simp; omega
            have hcg : decide ((c : Int) > 1) = false := decide_eq_false (by have := HS9.out; omega)
            clear hi9
            go_wp2_with fail
            go_meet
            exact ⟨rfl, below_many hB.out _⟩
          · have hi9b : ((i : Int) == 9) = false := by simp; omega
            clear hi9
            go_wp2_with fail
            go_meet
            exact ⟨rfl, below_many hB.out _⟩
        case rest =>
          obtain ⟨rfl, HBx⟩ := hcut
          have x2 := (HBx.out.cell (p := ⟨3, 0, none⟩) hgl1).trans hg1
          clear hB' hB e0 e1 x0 x1 d0 HVR hmI hwm hm0 hml hge
          have han := andNot7 c hc256
          have hw7 : IntKind.i64.wrap (7 * (i : Int)) = 7 * (i : Int) := IntWalk.i64_in _ (by omega)
          have hor := or_step i z c hi hz.out hc256 HS9.out
          have hZ64 := or_lt64 i z c hi hz.out hc256 HS9.out
          have hZlt := or_lt i z c hz.out
          generalize z + c % 128 * 2 ^ (7 * i) = Z at hor hZ64 hZlt HD1
          by_cases h128 : 128 ≤ c
          · have hcd : decide ((c : Int) ≥ 128) = true := decide_eq_true (by omega)
            rw [if_pos h128] at HD1
            have hi8 : i ≤ 8 := by
              rcases Nat.lt_or_ge 8 i with h | h
              · exact absurd ⟨by omega, by omega⟩ HS9.out
              · exact h
            go_wp2_with fail
            refine ⟨⟨i + 1, Z, by omega, by go_num, rfl, HD1, by have := HI.out; omega, hZlt, HBx⟩, ?_⟩
            simp [intOf]; omega
          · have hcd : decide ((c : Int) ≥ 128) = false := decide_eq_false (by omega)
            rw [if_neg h128] at HD1
            by_cases hc0 : c = 0 ∧ 0 < i
            · rw [if_pos hc0] at HD1
              have hcz : ((c : Int) == 0) = true := by simp; omega
              have hig : decide ((i : Int) > 0) = true := decide_eq_true (by omega)
              have hip : 0 < i := hc0.2
              have hcn : c = 0 := hc0.1
              clear hc0
              go_wp2_with fail
              go_quiet (fail)
              go_wp2_with fail
              refine bodyPost_ret (v := .tuple #[.int .i64 0, .int .i64 0, ev p 1]) (by simp [results, Tryz.results61, go_sem]) rfl ⟨by rw [HD1.out]; rfl, ?_⟩
              exact below_many HBx.out _
            · rw [if_neg hc0] at HD1
              go_upto_region 11 with fail
              go_cut [57] (fun v wx => v = .bool false ∧ wc = wx)
              case first =>
                by_cases hc1 : c = 0
                · have hi0 : i = 0 := by omega
                  have hcz : ((c : Int) == 0) = true := by simp; omega
                  have hig : decide ((i : Int) > 0) = false := decide_eq_false (by omega)
                  have hip : ¬ 0 < i := by omega
                  clear hi0 hc0
                  go_wp2_with fail
                  go_meet
                  exact ⟨rfl, rfl⟩
                · have hcz : ((c : Int) == 0) = false := by simp; omega
                  clear hc1 hc0
                  go_wp2_with fail
                  go_meet
                  exact ⟨rfl, rfl⟩
              case rest =>
                obtain ⟨rfl, rfl⟩ := hcut
                have hand := and1 Z hZ64
                have hun := unzz_bits Z hZ64
                have hwz : wrap64 ((Z : Int) / 2) = (Z : Int) / 2 := by unfold wrap64; omega
                go_wp2_with fail
                refine bodyPost_ret (v := .tuple #[.int .i64 (unzz Z), .int .i64 (i + 1 : Nat), .nilIface]) (by simp [results, Tryz.results61, go_sem]) rfl ⟨by rw [HD1.out]; rfl, HBx.out⟩
    · have hge : decide ((m : Int) ≥ (l.length : Int)) = true := decide_eq_true (by omega)
      have HD1 : Hid (d = .fin) := by
        have h := hD.out
        rw [List.drop_eq_nil_of_le (by omega)] at h
        exact h
      have hlm : l.length ≤ m := by omega
      clear hD hm
      go_wp2_with fail
      go_quiet (fail)
      go_wp2_with fail
      go_quiet (fail)
      go_wp2_with fail
      refine bodyPost_ret (v := .tuple #[.int .i64 0, .int .i64 0, ev p 0]) (by simp [results, Tryz.results61, go_sem]) rfl ⟨by rw [HD1.out]; rfl, ?_⟩
      exact below_many (below_many hB.out _) _
end Go.Proofs.YtchbkceconlbkaaGreatDoor
