/- stress.Two and stress.Cover: what each call returns. -/
import Derived.Test.YtehacchacgfjlaaDoorStress
import Derived.Test.YtehacchacgfjlaaDoorOwn
namespace Go.Proofs.YtehacchacgfjlaaDoor
open Go Go.RowKit
set_option linter.unusedSimpArgs false
set_option linter.unusedVariables false

/-- What is above what is needed, member for member. -/
def aboveN (m : List ((Int × Int) × Int)) (s : Int) (xs : List Int) (i : Nat) : Int := max ((mget m (s, (i : Int) + 1)).getD 0 - xs.getD i 0) 0
def aboveL (m : List ((Int × Int) × Int)) (s : Int) (xs : List Int) (k : Nat) : List Int := (List.range k).map (aboveN m s xs)
theorem aboveL_snoc (m : List ((Int × Int) × Int)) (s : Int) (xs : List Int) (k : Nat) : aboveL m s xs (k + 1) = aboveL m s xs k ++ [aboveN m s xs k] := by simp [aboveL, List.range_succ]
theorem aboveL_len (m : List ((Int × Int) × Int)) (s : Int) (xs : List Int) (k : Nat) : (aboveL m s xs k).length = k := by simp [aboveL]
def twoR (m : List ((Int × Int) × Int)) (s : Int) (xs : List Int) : Except Nat Int :=
  if 32 < xs.length then .error 4 else if isScene s && xs.all isAmt then topR (aboveL m s xs xs.length) else .error 2
theorem loss_bd {m : List ((Int × Int) × Int)} (h : ∀ x ∈ m, 0 ≤ x.2 ∧ x.2 ≤ 1000000000000000) (k : Int × Int) : 0 ≤ (mget m k).getD 0 ∧ (mget m k).getD 0 ≤ 1000000000000000 := by
  cases hg : mget m k with
  | none => simp
  | some v => have := h _ (mget_mem hg); simpa using this

theorem own_slI {E : TypeId} {base : Nat} {w : World} {v : Value} {xs : List Int} (h : OwnI E base w v xs) : SlI w v xs := by
  by_cases hne : xs = []
  · subst hne
    rcases h.2 with ⟨h1, _⟩ | ⟨g, cap, cur, h1, _, _, h3, h4, _⟩
    · exact ⟨none, 0, h1, by simp, by decide, .inl rfl⟩
    · exact ⟨_, cap, h1, h3, h4, .inl rfl⟩
  · obtain ⟨g, cap, h1, _, h2, h3, h4, h5, _⟩ := h.cells hne
    exact ⟨_, cap, h1, h3, h4, .inr ⟨g, 0, rfl, h2, fun i hi => by rw [Nat.zero_add]; exact h5 i hi⟩⟩

theorem infoI64 : (Tryd.prog.info? 2).map (fun i => (i.zero, i.size, i.bytes)) = some (some (.int .i64 0), 1, 8) := by kernel_rfl

set_option maxRecDepth 100000 in
theorem two_long {ks : List Nat} {B : Nat} {p : Nat → Addr} {w : World} (hE : Errs ks B p w) (h4 : 4 ∈ ks) (ptr : Value) (s : Int) (a : Option Addr) (len cap : Nat) (hl : (32 : Int) < len) :
    Calls Tryd.prog 55 #[ptr, .int .i64 s, .slice a len cap] w fun e w' => e = .returned (resV p (.error 4)) ∧ Below w.heap.size w w' := by
  have c4 := hE.cell 4 h4
  simp only [gl] at c4
  have hd : decide ((32 : Int) < len) = true := decide_eq_true hl
  clear hE h4
  go_enter Tryd.func55, Tryd.ntmps55
  go_wp2_with fail
  go_quiet (fail)
  go_wp2_with fail
  go_ret2
  exact ⟨rfl, by (repeat (first | exact Below.refl _ _ | assumption | refine Below.drew ?_ | refine below_many ?_ _ | refine Below.alloc ?_ (by first | (simp; done) | (simp; omega) | omega) _ | refine Below.setCell ?_ (by first | (simp; done) | (simp; omega) | omega) _))⟩

set_option maxRecDepth 100000 in
theorem two_scene {ks : List Nat} {B : Nat} {p : Nat → Addr} {w : World} (hE : Errs ks B p w) (h2 : 2 ∈ ks) (ptr : Value) (s : Int) (a : Option Addr) (len cap : Nat) (hl : ¬ (32 : Int) < len) (hs : isScene s = false) :
    Calls Tryd.prog 55 #[ptr, .int .i64 s, .slice a len cap] w fun e w' => e = .returned (resV p (.error 2)) ∧ Below w.heap.size w w' := by
  have c2 := hE.cell 2 h2
  simp only [gl] at c2
  have hd : decide ((32 : Int) < len) = false := decide_eq_false hl
  clear hE h2 hl
  go_enter Tryd.func55, Tryd.ntmps55
  go_wp2_with (go_at_call 93; refine (scene_calls _ _).mono ?_; rintro e w1 ⟨rfl, rfl⟩; rw [hs])
  go_quiet (fail)
  go_wp2_with fail
  go_ret2
  exact ⟨rfl, by (repeat (first | exact Below.refl _ _ | assumption | refine Below.drew ?_ | refine below_many ?_ _ | refine Below.alloc ?_ (by first | (simp; done) | (simp; omega) | omega) _ | refine Below.setCell ?_ (by first | (simp; done) | (simp; omega) | omega) _))⟩

set_option maxRecDepth 100000 in
theorem two_amt {ks : List Nat} {B : Nat} {p : Nat → Addr} {w : World} (hE : Errs ks B p w) (h2 : 2 ∈ ks) (ptr : Value) (s : Int) {v : Value} {xs : List Int} (hv : SlI w v xs) (hl : ¬ (32 : Int) < xs.length) (hs : isScene s = true) (ha : xs.all isAmt = false) :
    Calls Tryd.prog 55 #[ptr, .int .i64 s, v] w fun e w' => e = .returned (resV p (.error 2)) ∧ Below w.heap.size w w' := by
  have c2 := hE.cell 2 h2
  simp only [gl] at c2
  have hd : decide ((32 : Int) < xs.length) = false := decide_eq_false hl
  have HV := Lib.hid hv
  obtain ⟨a, cap, rfl, _⟩ := hv
  have HA := Lib.hid ha
  clear hE h2 hl ha
  go_enter Tryd.func55, Tryd.ntmps55
  go_wp2_with fail
  refine (scene_calls _ _).mono ?_
  rintro e w1 ⟨rfl, rfl⟩
  rw [hs]
  go_wp2_with fail
  refine (containsAmt_calls HV.out).mono ?_
  rintro e w1 ⟨rfl, rfl⟩
  rw [HA.out]
  go_wp2_with fail
  go_quiet (fail)
  go_wp2_with fail
  go_ret2
  exact ⟨rfl, by (repeat (first | exact Below.refl _ _ | assumption | refine Below.drew ?_ | refine below_many ?_ _ | refine Below.alloc ?_ (by first | (simp; done) | (simp; omega) | omega) _ | refine Below.setCell ?_ (by first | (simp; done) | (simp; omega) | omega) _))⟩

set_option maxHeartbeats 1000000 in
set_option maxRecDepth 100000 in
theorem two_ok {ks : List Nat} {B : Nat} {p : Nat → Addr} {w : World} (hE : Errs ks B p w) (h2 : 2 ∈ ks) (h3 : 3 ∈ ks) {b o : Nat} {r : Option Nat} {m : List ((Int × Int) × Int)} (hc : w.cell? ⟨b, o, none⟩ = some (.map r)) (hm : CellMap w r m) (hbd : ∀ x ∈ m, 0 ≤ x.2 ∧ x.2 ≤ 1000000000000000)
    (s : Int) {v : Value} {xs : List Int} (hv : SlI w v xs) (hl : ¬ (32 : Int) < xs.length) (hs : isScene s = true) (ha : xs.all isAmt = true) :
    Calls Tryd.prog 55 #[.pointer (some ⟨b, o, none⟩), .int .i64 s, v] w fun e w' => e = .returned (resV p (topR (aboveL m s xs xs.length))) ∧ Below w.heap.size w w' := by
  have hd : decide ((32 : Int) < xs.length) = false := decide_eq_false hl
  have hlt : b < w.heap.size := World.block_lt_of_cell? w ⟨b, o, none⟩ hc
  have HE := Lib.hid hE
  have HV := Lib.hid hv
  obtain ⟨a, cap, rfl, hcap, hmx, hcells⟩ := hv
  have HA := Lib.hid ha
  have HC := Lib.hid hc
  have HM := Lib.hid hm
  have HBd := Lib.hid hbd
  have HK : Hid (xs = [] ∨ ∃ b off, a = some ⟨b, off, none⟩ ∧ b < w.heap.size ∧ ∀ i, i < xs.length → w.cell? ⟨b, off + i, none⟩ = some (.int .i64 (xs.getD i 0))) := hcells
  have hsb : 1 ≤ s ∧ s ≤ 16 := by simpa [isScene] using hs
  clear hE ha hc hm hbd hcells hmx hcap
  go_enter Tryd.func55, Tryd.ntmps55
  go_wp2_with fail
  refine (scene_calls _ _).mono ?_
  rintro e w1 ⟨rfl, rfl⟩
  rw [hs]
  clear hs
  go_wp2_with fail
  refine (containsAmt_calls HV.out).mono ?_
  rintro e w1 ⟨rfl, rfl⟩
  rw [HA.out]
  go_wp2_with fail
  go_loopw [25, 8] (fun i q wr => ∃ k : Nat, k ≤ xs.length ∧ i = .int .i64 k ∧ Hid (OwnI 2 w.heap.size wr q (aboveL m s xs k)) ∧ Hid (Below w.heap.size w wr)) (fun i _ _ => xs.length - (intOf i).toNat)
  case atStart => exact ⟨0, Nat.zero_le _, rfl, OwnI.nil _ _ _, Below.refl _ _⟩
  case round =>
    obtain ⟨k, hk, rfl, hown, hB⟩ := hrel
    by_cases hlk : k < xs.length
    · obtain ⟨xb, off, rfl, hxb, hcell⟩ := HK.out.resolve_left (by intro e; rw [e] at hlk; simp at hlk)
      have hx := (hB.out.cell (p := ⟨xb, off + k, none⟩) hxb).trans (hcell k hlk)
      have hxa : isAmt (xs.getD k 0) = true := by
        have := List.all_eq_true.1 HA.out (xs.getD k 0) (by simp [List.getD, hlk])
        exact this
      have hN : Hid (aboveN m s xs k = max ((mget m (s, (k : Int) + 1)).getD 0 - xs.getD k 0) 0) := rfl
      have hg := loss_bd HBd.out (s, (k : Int) + 1)
      generalize xs.getD k 0 = x at hx hxa hN
      generalize hgv : (mget m (s, (k : Int) + 1)).getD 0 = g at hg hN
      have HG := Lib.hid hgv
      have hxb2 : 0 ≤ x ∧ x ≤ 1000000000000000 := by simpa [isAmt] using hxa
      clear hcell hxa hgv
      go_wp2_with fail
      refine (tabGet_calls ((hB.out.cell (p := ⟨b, o, none⟩) hlt).trans HC.out) (HM.out.below hB.out) s ((k : Int) + 1) (i64wf (by omega) (by omega)) (i64wf (by omega) (by omega))).mono ?_
      rintro e w2 ⟨rfl, hb2⟩
      rw [HG.out]
      have HO2 := Lib.hid (hown.out.below hb2)
      have HB2 := Lib.hid (hB.out.trans (hb2.mono hB.out.size))
      clear hb2 hown hB hx
      by_cases hgx : g < x
      · have hN2 : Hid (aboveN m s xs k = 0) := by rw [Hid, hN.out]; omega
        have hgx' : g - x < 0 := by omega
        clear hgx
        go_wp2_with (at_builtin; refine wpList_app1 rfl _ _ 92 rfl 2 Tryd.underlying92 infoI64 w.heap.size _ (aboveL m s xs k) rfl (HO2.out.alloc _) w2.heap.size 1 (0) rfl ?c1 ?c2 ?c3 ?_)
        case c1 => go_simp
        case c2 => rw [aboveL_len]; omega
        case c3 => have := HB2.out.size; simp; omega
        intro v' w3 ho3 hb3
        have HO3 : Hid (OwnI 2 w.heap.size w3 v' (aboveL m s xs (k + 1))) := by rw [Hid, aboveL_snoc, hN2.out]; exact ho3
        have HB3 : Hid (Below w.heap.size w w3) := (HB2.out.alloc HB2.out.size _).trans hb3
        clear ho3 hb3
        go_wp2_with fail
        go_roundw
        case rel => exact ⟨k + 1, by omega, by go_num, HO3, HB3⟩
        case measure => simp [intOf]; omega
      · have hN2 : Hid (aboveN m s xs k = g - x) := by rw [Hid, hN.out]; omega
        have hgx' : 0 ≤ g - x := by omega
        clear hgx
        go_wp2_with (at_builtin; refine wpList_app1 rfl _ _ 92 rfl 2 Tryd.underlying92 infoI64 w.heap.size _ (aboveL m s xs k) rfl (HO2.out.alloc _) w2.heap.size 1 (g - x) rfl ?c1 ?c2 ?c3 ?_)
        case c1 => go_simp
        case c2 => rw [aboveL_len]; omega
        case c3 => have := HB2.out.size; simp; omega
        intro v' w3 ho3 hb3
        have HO3 : Hid (OwnI 2 w.heap.size w3 v' (aboveL m s xs (k + 1))) := by rw [Hid, aboveL_snoc, hN2.out]; exact ho3
        have HB3 : Hid (Below w.heap.size w w3) := (HB2.out.alloc HB2.out.size _).trans hb3
        clear ho3 hb3
        go_wp2_with fail
        go_roundw
        case rel => exact ⟨k + 1, by omega, by go_num, HO3, HB3⟩
        case measure => simp [intOf]; omega
    · obtain rfl : k = xs.length := by omega
      go_wp2_with fail
      refine (top_calls (HE.out.below (hB.out.mono HE.out.size)) h2 h3 (own_slI hown.out)).mono ?_
      rintro e w2 ⟨rfl, hb2⟩
      have HB2 := Lib.hid (hB.out.trans (hb2.mono hB.out.size))
      clear hb2 hown hB
      cases hr : topR (aboveL m s xs xs.length) with
      | ok n =>
        have HR : Hid (resV p (topR (aboveL m s xs xs.length)) = .tuple #[.int .i64 n, .nilIface]) := by unfold Hid; rw [hr]; rfl
        clear hr
        simp only [resV]
        go_wp2_with fail
        go_ret2
        exact ⟨by rw [HR.out]; rfl, HB2.out⟩
      | error q =>
        have HR : Hid (resV p (topR (aboveL m s xs xs.length)) = .tuple #[.int .i64 0, ev p q]) := by unfold Hid; rw [hr]; rfl
        clear hr
        simp only [resV]
        unfold ev errV
        go_wp2_with fail
        go_ret2
        exact ⟨by rw [HR.out]; rfl, HB2.out⟩

set_option maxRecDepth 100000 in
theorem two_calls {ks : List Nat} {B : Nat} {p : Nat → Addr} {w : World} (hE : Errs ks B p w) (h2 : 2 ∈ ks) (h3 : 3 ∈ ks) (h4 : 4 ∈ ks) {b o : Nat} {r : Option Nat} {m : List ((Int × Int) × Int)} (hc : w.cell? ⟨b, o, none⟩ = some (.map r)) (hm : CellMap w r m) (hbd : ∀ x ∈ m, 0 ≤ x.2 ∧ x.2 ≤ 1000000000000000)
    (s : Int) {v : Value} {xs : List Int} (hv : SlI w v xs) :
    Calls Tryd.prog 55 #[.pointer (some ⟨b, o, none⟩), .int .i64 s, v] w fun e w' => e = .returned (resV p (twoR m s xs)) ∧ Below w.heap.size w w' := by
  by_cases hl : 32 < xs.length
  · rw [show twoR m s xs = .error 4 from if_pos hl]
    obtain ⟨a, cap, rfl, _⟩ := hv
    exact two_long hE h4 _ s a xs.length cap (by omega)
  · cases hs : isScene s with
    | false =>
      rw [show twoR m s xs = .error 2 by simp [twoR, hl, hs]]
      obtain ⟨a, cap, rfl, _⟩ := hv
      exact two_scene hE h2 _ s a xs.length cap (by omega) hs
    | true =>
      cases ha : xs.all isAmt with
      | false =>
        rw [show twoR m s xs = .error 2 by simp only [twoR, hl, hs, ha]; rfl]
        exact two_amt hE h2 _ s hv (by omega) hs ha
      | true =>
        rw [show twoR m s xs = topR (aboveL m s xs xs.length) by simp only [twoR, hl, hs, ha]; rfl]
        exact two_ok hE h2 h3 hc hm hbd s hv (by omega) hs ha

end Go.Proofs.YtehacchacgfjlaaDoor
