/- Holdings in memory as a whole; Of where nothing is; chapter 14's examples. -/
import Derived.Test.YtfecgcdceegdlaaDoorHoldAll
import Derived.Test.YtfecgcdceegdlaaDoorHoldNone
import Derived.Test.YtfecgcdceegdlaaDoorSee
namespace Go.Proofs.YtfecgcdceegdlaaDoor
open Go.Maps
open Go Go.RowKit
set_option linter.unusedSimpArgs false
set_option linter.unusedVariables false

/-- Holdings at block b; their map lies from lo on. -/
def HoldAt (lo : Nat) (w : World) (b : Nat) (m : SpotM) : Prop :=
  ∃ r, w.cell? ⟨b, 0, none⟩ = some (.map r) ∧ w.frozen? ⟨b, 0, none⟩ = false ∧ SpotMap w r m ∧ ∀ mb, r = some mb → lo ≤ mb ∧ mb ≠ b
theorem HoldAt.below {lo b : Nat} {w w' : World} {m : SpotM} (h : HoldAt lo w b m) (hb : Below w.heap.size w w') : HoldAt lo w' b m := by
  obtain ⟨r, hc, hf, hm, hr⟩ := h
  have hlt := World.block_lt_of_cell? w _ hc
  exact ⟨r, (hb.cell hlt).trans hc, (hb.frozen hlt).trans hf, hm.below hb, hr⟩
theorem HoldAt.lt {lo b : Nat} {w : World} {m : SpotM} (h : HoldAt lo w b m) : b < w.heap.size := by
  obtain ⟨r, hc, _⟩ := h
  exact World.block_lt_of_cell? w _ hc
theorem hold_new (lo : Nat) (w : World) : HoldAt lo (w.alloc (Obj.cells #[.map none] 53)) w.heap.size [] :=
  ⟨none, by go_simp, by go_simp, .inl ⟨rfl, rfl⟩, fun mb h => by cases h⟩
section
variable {ks : List Nat} {B : Nat} {p : Nat → Addr} {w : World} {lo b : Nat} {m : SpotM}
theorem hold_put_bad (hE : Errs ks B p w) (h2 : 2 ∈ ks) (h : HoldAt lo w b m) (hlo : lo ≤ w.heap.size) (s k q : Int) (hv : spotOK s k q = false) :
    Calls Tryd.prog 34 #[.pointer (some ⟨b, 0, none⟩), pairV (s, k), .int .i64 q] w fun e w' => e = .returned (ev p 2) ∧ HoldAt lo w' b m ∧ Below lo w w' := by
  refine (holdPut_bad hE h2 _ s k q hv).mono ?_
  rintro e w' ⟨rfl, hb⟩
  exact ⟨rfl, h.below hb, hb.mono hlo⟩
theorem hold_take_bad (hE : Errs ks B p w) (h2 : 2 ∈ ks) (h : HoldAt lo w b m) (hlo : lo ≤ w.heap.size) (s k q : Int) (hv : spotOK s k q = false) :
    Calls Tryd.prog 33 #[.pointer (some ⟨b, 0, none⟩), pairV (s, k), .int .i64 q] w fun e w' => e = .returned (ev p 2) ∧ HoldAt lo w' b m ∧ Below lo w w' := by
  refine (holdTake_bad hE h2 _ s k q hv).mono ?_
  rintro e w' ⟨rfl, hb⟩
  exact ⟨rfl, h.below hb, hb.mono hlo⟩
theorem hold_put_over (hE : Errs ks B p w) (h2 : 2 ∈ ks) (h3 : 3 ∈ ks) (h : HoldAt lo w b m) (hlo : lo ≤ w.heap.size) (s k q g : Int) (hv : spotOK s k q = true) (hg : (mget m (s, k)).getD 0 = g) (hg0 : 0 ≤ g) (hgm : g ≤ 1000000000000) (hgq : 1000000000000 < g + q) :
    Calls Tryd.prog 34 #[.pointer (some ⟨b, 0, none⟩), pairV (s, k), .int .i64 q] w fun e w' => e = .returned (ev p 3) ∧ HoldAt lo w' b m ∧ Below lo w w' := by
  have h0 := h
  obtain ⟨r, hc, hf, hm, hr⟩ := h
  refine (holdPut_over hE h2 h3 hc hm s k q g hv hg hg0 hgm hgq).mono ?_
  rintro e w' ⟨rfl, hb⟩
  exact ⟨rfl, h0.below hb, hb.mono hlo⟩
theorem hold_take_short (hE : Errs ks B p w) (h2 : 2 ∈ ks) (h12 : 12 ∈ ks) (h : HoldAt lo w b m) (hlo : lo ≤ w.heap.size) (s k q g : Int) (hv : spotOK s k q = true) (hg : (mget m (s, k)).getD 0 = g) (hgq : g < q) :
    Calls Tryd.prog 33 #[.pointer (some ⟨b, 0, none⟩), pairV (s, k), .int .i64 q] w fun e w' => e = .returned (ev p 12) ∧ HoldAt lo w' b m ∧ Below lo w w' := by
  have h0 := h
  obtain ⟨r, hc, hf, hm, hr⟩ := h
  refine (holdTake_short hE h2 h12 hc hm s k q g hv hg hgq).mono ?_
  rintro e w' ⟨rfl, hb⟩
  exact ⟨rfl, h0.below hb, hb.mono hlo⟩
theorem hold_put (hE : Errs ks B p w) (h2 : 2 ∈ ks) (h : HoldAt lo w b m) (hlo : lo ≤ w.heap.size) (hlb : lo ≤ b) (s k q g : Int) (hv : spotOK s k q = true) (hg : (mget m (s, k)).getD 0 = g) (hg0 : 0 ≤ g) (hgm : g ≤ 1000000000000) (hgq : g + q ≤ 1000000000000) :
    Calls Tryd.prog 34 #[.pointer (some ⟨b, 0, none⟩), pairV (s, k), .int .i64 q] w fun e w' => e = .returned .nilIface ∧ HoldAt lo w' b (mput m (s, k) (g + q)) ∧ Below lo w w' := by
  have hb := h.lt
  obtain ⟨r, hc, hf, hm, hr⟩ := h
  by_cases hne : m = []
  · subst hne
    obtain rfl : 0 = g := hg
    refine (holdPut_none hE h2 hc hf hm s k q hv).mono ?_
    rintro e w' ⟨rfl, nb, hm', hc', hf', hnb, hk'⟩
    refine ⟨rfl, ⟨some nb, hc', hf', ?_, fun mb h => by cases h; exact ⟨Nat.le_trans hlo hnb, by omega⟩⟩, hk'.below hlo fun x hx e => by omega⟩
    rw [Int.zero_add]
    simpa [mput, mget] using hm'
  · obtain ⟨mb, rfl⟩ : ∃ mb, r = some mb := by
      rcases hm with ⟨_, h⟩ | ⟨mb, h, _⟩
      · exact absurd h hne
      · exact ⟨mb, h⟩
    have hmb := hr mb rfl
    refine (holdPut_some hE h2 hc hm s k q g hv hg hne hg0 hgm hgq).mono ?_
    rintro e w' ⟨rfl, hm', hk'⟩
    exact ⟨rfl, ⟨some mb, (hk'.cell hb (fun e => hmb.2 e.symm)).trans hc, (hk'.frozen hb (fun e => hmb.2 e.symm)).trans hf, hm', hr⟩, hk'.below hlo fun x hx e => by omega⟩
theorem some_of_get {m : SpotM} {r : Option Nat} (hm : SpotMap w r m) {s k g : Int} (hg : (mget m (s, k)).getD 0 = g) (h1 : 0 < g) : ∃ mb, r = some mb := by
  rcases hm with ⟨_, rfl⟩ | ⟨mb, h, _⟩
  · simp [mget] at hg; omega
  · exact ⟨mb, h⟩
theorem hold_take_all (hE : Errs ks B p w) (h2 : 2 ∈ ks) (h : HoldAt lo w b m) (hlo : lo ≤ w.heap.size) (hlb : lo ≤ b) (s k q : Int) (hv : spotOK s k q = true) (hg : (mget m (s, k)).getD 0 = q) :
    Calls Tryd.prog 33 #[.pointer (some ⟨b, 0, none⟩), pairV (s, k), .int .i64 q] w fun e w' => e = .returned .nilIface ∧ HoldAt lo w' b (mdel m (s, k)) ∧ Below lo w w' := by
  have hb := h.lt
  obtain ⟨r, hc, hf, hm, hr⟩ := h
  obtain ⟨mb, rfl⟩ := some_of_get hm hg (by simp only [spotOK, decide_eq_true_eq] at hv; omega)
  have hmb := hr mb rfl
  refine (holdTake_all hE h2 hc hm s k q q hv hg rfl).mono ?_
  rintro e w' ⟨rfl, hm', hk'⟩
  exact ⟨rfl, ⟨some mb, (hk'.cell hb (fun e => hmb.2 e.symm)).trans hc, (hk'.frozen hb (fun e => hmb.2 e.symm)).trans hf, hm', hr⟩, hk'.below hlo fun x hx e => by omega⟩
theorem hold_take_part (hE : Errs ks B p w) (h2 : 2 ∈ ks) (h : HoldAt lo w b m) (hlo : lo ≤ w.heap.size) (hlb : lo ≤ b) (s k q g : Int) (hv : spotOK s k q = true) (hg : (mget m (s, k)).getD 0 = g) (hgq : q < g) (hgm : g ≤ 1000000000000) :
    Calls Tryd.prog 33 #[.pointer (some ⟨b, 0, none⟩), pairV (s, k), .int .i64 q] w fun e w' => e = .returned .nilIface ∧ HoldAt lo w' b (mput m (s, k) (g - q)) ∧ Below lo w w' := by
  have hb := h.lt
  obtain ⟨r, hc, hf, hm, hr⟩ := h
  obtain ⟨mb, rfl⟩ := some_of_get hm hg (by simp only [spotOK, decide_eq_true_eq] at hv; omega)
  have hmb := hr mb rfl
  refine (holdTake_part hE h2 hc hm s k q g hv hg hgq hgm).mono ?_
  rintro e w' ⟨rfl, hm', hk'⟩
  exact ⟨rfl, ⟨some mb, (hk'.cell hb (fun e => hmb.2 e.symm)).trans hc, (hk'.frozen hb (fun e => hmb.2 e.symm)).trans hf, hm', hr⟩, hk'.below hlo fun x hx e => by omega⟩
theorem hold_get (h : HoldAt lo w b m) (s k : Int) (h1 : (Lit.int .i64 s).wf = true) (h2 : (Lit.int .i64 k).wf = true) :
    Calls Tryd.prog 36 #[.pointer (some ⟨b, 0, none⟩), pairV (s, k)] w fun e w' => e = .returned (.int .i64 ((mget m (s, k)).getD 0)) ∧ Below w.heap.size w w' := by
  obtain ⟨r, hc, hf, hm, hr⟩ := h
  exact holdGet_calls hc hm s k h1 h2
theorem hold_sum (h : HoldAt lo w b m) (hl : m.length ≤ 1000) (hbd : ∀ x ∈ m, 0 ≤ x.2 ∧ x.2 ≤ 1000000000000) (a : Int) :
    Calls Tryd.prog 35 #[.pointer (some ⟨b, 0, none⟩), .int .i64 a] w fun e w' => e = .returned (.int .i64 (sumH m a)) ∧ Below w.heap.size w w' := by
  obtain ⟨r, hc, hf, hm, hr⟩ := h
  exact holdSum_calls hc hm hl hbd a
theorem hold_all1 (h : HoldAt lo w b m) (hl : m.length ≤ 1) :
    Calls Tryd.prog 37 #[.pointer (some ⟨b, 0, none⟩)] w fun e w' => ∃ ad c, e = .returned (.slice ad m.length c) ∧ Below w.heap.size w w' := by
  obtain ⟨r, hc, hf, hm, hr⟩ := h
  exact holdAll_small hc hm hl
end

theorem index0 (a : Option Addr) (c : Nat) (f : Value) (w : World) : Calls Tryd.prog 112 #[.slice a 0 c, f] w fun e w' => e = .returned (.int .i64 (-1)) ∧ w = w' := by
  go_enter Tryd.func112, Tryd.ntmps112
  go_wp2_with fail
  go_loop [8] (fun i => i = .int .i64 0) (fun _ => 0)
  case atStart => rfl
  case round =>
    obtain rfl := hrel
    go_wp2_with fail
    go_ret
    exact ⟨rfl, rfl⟩
theorem delete0 (a : Option Addr) (c : Nat) (f : Value) (w : World) : Calls Tryd.prog 83 #[.slice a 0 c, f] w fun e w' => e = .returned (.slice a 0 c) ∧ w = w' := by
  go_enter Tryd.func83, Tryd.ntmps83
  go_wp2_with fail
  refine (index0 _ _ _ _).mono ?_
  rintro e _ ⟨rfl, rfl⟩
  go_wp2_with fail
  go_ret
  exact ⟨rfl, rfl⟩
theorem hold_of0 {w : World} {lo b : Nat} (h : HoldAt lo w b []) (n : Int) :
    Calls Tryd.prog 38 #[.pointer (some ⟨b, 0, none⟩), .int .i64 n] w fun e w' => ∃ ad c, e = .returned (.slice ad 0 c) ∧ Below w.heap.size w w' := by
  have hb0 : Below w.heap.size w (w.alloc (Obj.cells #[.int .i64 n] 3)) := by (repeat (first | exact Below.refl _ _ | assumption | refine Below.drew ?_ | refine below_many ?_ _ | refine Below.alloc ?_ (by first | (simp; done) | (simp; omega) | omega) _ | refine Below.setCell ?_ (by first | (simp; done) | (simp; omega) | omega) _))
  have H1 := Lib.hid (h.below hb0)
  clear h
  go_enter Tryd.func38, Tryd.ntmps38
  go_wp2_with fail
  refine (hold_all1 H1.out (by simp)).mono ?_
  rintro e w1 ⟨ad, c, rfl, hb⟩
  have HB : Hid (Below w.heap.size w w1) := hb0.trans (hb.mono hb0.size)
  rw [show ([] : SpotM).length = 0 from rfl]
  clear hb
  go_wp2_with fail
  refine (delete0 _ _ _ _).mono ?_
  rintro e _ ⟨rfl, rfl⟩
  go_wp2_with fail
  go_ret
  exact ⟨_, _, rfl, HB.out⟩

set_option maxHeartbeats 1000000 in
set_option maxRecDepth 100000 in
theorem first14_calls {p : Nat → Addr} {B : Nat} {w : World} (hE : Errs (List.range 21) B p w) : Calls Tryd.prog 32 #[] w fun e w' => e = .returned (.bool true) ∧ Below w.heap.size w w' := by
  have HE := Lib.hid hE
  clear hE
  go_enter Tryd.func32, Tryd.ntmps32
  go_wp2_with fail
  have hB0 : Below w.heap.size w (w.alloc (Obj.cells #[.map none] 53)) := by (repeat (first | exact Below.refl _ _ | assumption | refine Below.drew ?_ | refine below_many ?_ _ | refine Below.alloc ?_ (by first | (simp; done) | (simp; omega) | omega) _ | refine Below.setCell ?_ (by first | (simp; done) | (simp; omega) | omega) _))
  have hsB := HE.out.size
  refine (hold_take_short (HE.out.below (hB0.mono hsB)) (by decide) (by decide) (hold_new w.heap.size w) hB0.size 1 1 1 0 (by decide) (by decide) (by decide)).mono ?_
  rintro e w1 ⟨rfl, hH1, hb1⟩
  have hB1 := hB0.trans hb1
  have hs1 := hB1.size
  rw [show ev p 12 = Value.iface 230 (.pointer (some (p 12))) from rfl]
  have HH1 := Lib.hid hH1
  clear hH1 hb1 hB0
  go_wp2_with fail
  refine (is_ev (HE.out.below (hB1.mono hsB)) (k := 12) (by decide) 113).mono ?_
  rintro e w2 ⟨rfl, hb2⟩
  rw [show ((101 + ((12 : Nat) : Int)) == 113) = true from rfl]
  have HH2 := Lib.hid (HH1.out.below hb2)
  have hB2 := hB1.trans (hb2.mono hs1)
  have hs2 := hB2.size
  clear hb2 HH1
  go_wp2_with fail
  refine (hold_put (HE.out.below (hB2.mono hsB)) (by decide) HH2.out hs2 (Nat.le_refl _) 1 1 3 0 (by decide) (by decide) (by decide) (by decide) (by decide)).mono ?_
  rintro e w3 ⟨rfl, hH3, hb3⟩
  have hB3 := hB2.trans hb3
  have HH3 := Lib.hid hH3
  clear hH3 hb3 HH2
  go_wp2_with fail
  refine (hold_sum HH3.out (by decide) (by decide) 1).mono ?_
  rintro e w4 ⟨rfl, hb4⟩
  rw [show sumH (mput [] (1, 1) (0 + 3)) 1 = 3 by decide]
  have hB4 := hB3.trans (hb4.mono hB3.size)
  clear hb4
  go_wp2_with fail
  go_ret
  exact ⟨rfl, hB4⟩
end Go.Proofs.YtfecgcdceegdlaaDoor
