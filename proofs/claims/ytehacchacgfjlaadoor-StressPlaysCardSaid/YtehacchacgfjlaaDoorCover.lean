/- stress.Cover, stress.Set, and the table as a bundle: what each call returns and what it leaves. -/
import Derived.Test.YtehacchacgfjlaaDoorTwo
namespace Go.Proofs.YtehacchacgfjlaaDoor
open Go Go.RowKit
set_option linter.unusedSimpArgs false
set_option linter.unusedVariables false

theorem Below.drewN {B : Nat} {a w : World} (h : Below B a w) (n : Nat) : Below B a (w.drewN n) := ⟨h.os, h.tape, h.output, h.size, h.block⟩
theorem results_tmp3 {fn : Func} {t u v : Tmp} (h : fn.results = #[.tmp t, .tmp u, .tmp v]) (tmps : Array Value) (P : Program) (w : World) :
    (results fn tmps).run P w = .ok (.tuple #[tmps.getD t undef, tmps.getD u undef, tmps.getD v undef]) w := by
  simp [results, h]

/-- The greatest of the scenes 1 to k, and its scene. -/
def coverN (m : List ((Int × Int) × Int)) (xs : List Int) : Nat → Except Nat (Int × Int)
  | 0 => .ok (0, 1)
  | k + 1 => match coverN m xs k with
    | .error e => .error e
    | .ok (a, b) => match twoR m ((k : Int) + 1) xs with
      | .error e => .error e
      | .ok n => .ok (if a < n then (n, (k : Int) + 1) else (a, b))
def coverR (m : List ((Int × Int) × Int)) (xs : List Int) : Except Nat (Int × Int) := coverN m xs 16
def covV (p : Nat → Addr) : Except Nat (Int × Int) → Value
  | .ok n => .tuple #[.int .i64 n.1, .int .i64 n.2, .nilIface]
  | .error k => .tuple #[.int .i64 0, .int .i64 0, ev p k]
theorem coverN_err {m : List ((Int × Int) × Int)} {xs : List Int} {e : Nat} {k : Nat} (h : coverN m xs k = .error e) : ∀ d, coverN m xs (k + d) = .error e := by
  intro d
  induction d with
  | zero => exact h
  | succ d ih => rw [← Nat.add_assoc, coverN, ih]
theorem coverN_step {m : List ((Int × Int) × Int)} {xs : List Int} {k : Nat} {a b n : Int} (h : coverN m xs k = .ok (a, b)) (h2 : twoR m ((k : Int) + 1) xs = .ok n) : coverN m xs (k + 1) = .ok (if a < n then (n, (k : Int) + 1) else (a, b)) := by
  rw [coverN, h]; simp only [h2]
theorem coverN_bad {m : List ((Int × Int) × Int)} {xs : List Int} {k : Nat} {a b : Int} {e : Nat} (h : coverN m xs k = .ok (a, b)) (h2 : twoR m ((k : Int) + 1) xs = .error e) : coverN m xs (k + 1) = .error e := by
  rw [coverN, h]; simp only [h2]

set_option maxHeartbeats 1000000 in
set_option maxRecDepth 100000 in
theorem cover_calls {ks : List Nat} {B : Nat} {p : Nat → Addr} {w : World} (hE : Errs ks B p w) (h2 : 2 ∈ ks) (h3 : 3 ∈ ks) (h4 : 4 ∈ ks) {b o : Nat} {r : Option Nat} {m : List ((Int × Int) × Int)} (hc : w.cell? ⟨b, o, none⟩ = some (.map r)) (hm : CellMap w r m) (hbd : ∀ x ∈ m, 0 ≤ x.2 ∧ x.2 ≤ 1000000000000000)
    {v : Value} {xs : List Int} (hv : SlI w v xs) :
    Calls Tryd.prog 57 #[.pointer (some ⟨b, o, none⟩), v] w fun e w' => e = .returned (covV p (coverR m xs)) ∧ Below w.heap.size w w' := by
  have hlt : b < w.heap.size := World.block_lt_of_cell? w ⟨b, o, none⟩ hc
  have HE := Lib.hid hE
  have HV := Lib.hid hv
  obtain ⟨a, cap, rfl, hcap, hmx, hcells⟩ := hv
  have HC := Lib.hid hc
  have HM := Lib.hid hm
  have HBd := Lib.hid hbd
  clear hE hc hm hbd hcells hmx hcap
  go_enter Tryd.func57, Tryd.ntmps57
  go_wp2_with fail
  go_loopw [9, 7, 8] (fun i x y wr => ∃ (k : Nat) (mo be : Int), k ≤ 16 ∧ i = .int .i64 ((k : Int) + 1) ∧ x = .int .i64 mo ∧ y = .int .i64 be ∧ Hid (coverN m xs k = .ok (mo, be)) ∧ Hid (Below w.heap.size w wr)) (fun i _ _ _ => 17 - (intOf i).toNat)
  case atStart => exact ⟨0, 0, 1, by omega, rfl, rfl, rfl, rfl, Below.refl _ _⟩
  case round =>
    obtain ⟨k, mo, be, hk, rfl, rfl, rfl, hN, hB⟩ := hrel
    by_cases hlk : k < 16
    · have hlk' : (k : Int) + 1 ≤ 16 := by omega
      go_wp2_with fail
      refine (two_calls (HE.out.below (hB.out.mono HE.out.size)) h2 h3 h4 ((hB.out.cell (p := ⟨b, o, none⟩) hlt).trans HC.out) (HM.out.below hB.out) HBd.out ((k : Int) + 1) (HV.out.below hB.out)).mono ?_
      rintro e w2 ⟨rfl, hb2⟩
      have HB2 := Lib.hid (hB.out.trans (hb2.mono hB.out.size))
      clear hb2 hB
      cases hr : twoR m ((k : Int) + 1) xs with
      | ok n =>
        have HR : Hid (coverN m xs (k + 1) = .ok (if mo < n then (n, (k : Int) + 1) else (mo, be))) := coverN_step hN.out hr
        clear hr
        simp only [resV]
        by_cases hgt : mo < n
        · have HR2 : Hid (coverN m xs (k + 1) = .ok (n, (k : Int) + 1)) := by unfold Hid; rw [HR.out, if_pos hgt]
          go_wp2_with fail
          go_roundw
          case rel => exact ⟨k + 1, n, (k : Int) + 1, by omega, by go_num, rfl, rfl, HR2, HB2⟩
          case measure => simp [intOf]; omega
        · have HR2 : Hid (coverN m xs (k + 1) = .ok (mo, be)) := by unfold Hid; rw [HR.out, if_neg hgt]
          go_wp2_with fail
          go_roundw
          case rel => exact ⟨k + 1, mo, be, by omega, by go_num, rfl, rfl, HR2, HB2⟩
          case measure => simp [intOf]; omega
      | error q =>
        have HR : Hid (coverR m xs = .error q) := by
          have := coverN_err (coverN_bad hN.out hr) (15 - k)
          rwa [show k + 1 + (15 - k) = 16 by omega] at this
        clear hr
        simp only [resV]
        unfold ev errV
        go_wp2_with fail
        ((try simp only [Exit.inBlock, Exit.then]); refine bodyPost_ret (results_tmp3 rfl _ _ _) rfl ?_)
        exact ⟨by rw [HR.out]; rfl, HB2.out⟩
    · obtain rfl : k = 16 := by omega
      go_wp2_with fail
      ((try simp only [Exit.inBlock, Exit.then]); refine bodyPost_ret (results_tmp3 rfl _ _ _) rfl ?_)
      exact ⟨by rw [show coverR m xs = .ok (mo, be) from hN.out]; rfl, hB.out⟩

theorem SlI.nil (w : World) : SlI w (.slice none 0 0) [] := ⟨none, 0, rfl, by simp, by decide, .inl rfl⟩
theorem coverR_nil : coverR [] [] = .ok (0, 1) := by rfl

set_option maxRecDepth 100000 in
theorem first22_calls {ks : List Nat} {B : Nat} {p : Nat → Addr} {w : World} (hE : Errs ks B p w) (h2 : 2 ∈ ks) (h3 : 3 ∈ ks) (h4 : 4 ∈ ks) :
    Calls Tryd.prog 51 #[] w fun e w' => e = .returned (.bool true) ∧ Below w.heap.size w w' := by
  have HE := Lib.hid hE
  clear hE
  go_enter Tryd.func51, Tryd.ntmps51
  go_wp2_with fail
  refine (cover_calls (HE.out.below (Below.alloc (Below.refl _ _) HE.out.size _)) h2 h3 h4 (o := 0) (r := none) (m := []) (by go_simp) (.inl ⟨rfl, rfl⟩) (by simp) (SlI.nil _)).mono ?_
  rintro e w1 ⟨rfl, hb⟩
  rw [coverR_nil]
  simp only [covV]
  have HB := Lib.hid hb
  clear hb
  go_wp2_with fail
  go_ret
  exact ⟨rfl, (Below.alloc (Below.refl _ _) (by simp) _).trans (HB.out.mono (by simp))⟩

end Go.Proofs.YtehacchacgfjlaaDoor
