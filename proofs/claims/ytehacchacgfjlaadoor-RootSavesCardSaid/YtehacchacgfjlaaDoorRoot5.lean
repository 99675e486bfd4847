/- Package root: Save. -/
import Derived.Test.YtehacchacgfjlaaDoorRoot4
namespace Go.Proofs.YtehacchacgfjlaaDoor
open Go.Maps
open Go Go.RowKit
set_option linter.unusedSimpArgs false
set_option linter.unusedVariables false

section
variable {lo : Nat} {w w' : World} {d fb pb n : Nat} {f : Int → List Int} {P : PenL} {calls fuse : Int} {down : Bool}
theorem rdB_of_own {base : Nat} {v : Value} {bs : List Int} (h : OwnB base w v bs) (hl : bs.length = 128) : RdB w v bs ∧ (∃ a c, v = .slice a 128 c) := by
  obtain ⟨a, c, hv⟩ := h.len
  exact ⟨h.rd, a, c, by rw [hv, hl]⟩
set_option maxHeartbeats 2000000 in
set_option maxRecDepth 100000 in
/-- What may not be is told, and nothing is written. -/
theorem save_bad {ks : List Nat} {B : Nat} {p : Nat → Addr} (hE : Errs ks B p w) (hk2 : 2 ∈ ks) (hk4 : 4 ∈ ks) {e : Int} {v : Value} {l : List Int} (hv : RdK .i64 w v l) (h : ¬ rootOk e l) (dv : Value) :
    Calls Tryd.prog 36 #[dv, rootV e v] w fun r w' => r = .returned (ev p (rootErr e l)) ∧ Below w.heap.size w w' := by
  obtain ⟨a, c, rfl, hlc, hcm⟩ := hv.len
  have hb0 : Below w.heap.size w (w.alloc (.cells #[.int .i64 e, .slice a l.length c] 48)) := by (repeat (first | exact Below.refl _ _ | assumption | refine Below.drew ?_ | refine below_many ?_ _ | refine Below.alloc ?_ (by first | (simp; done) | (simp; omega) | omega) _ | refine Below.setCell ?_ (by first | (simp; done) | (simp; omega) | omega) _))
  have HV := Lib.hid (hv.below hb0)
  have HE := Lib.hid (hE.below (hb0.mono hE.size))
  have HB0 := Lib.hid hb0
  have HN := Lib.hid h
  unfold maxLen at hcm
  clear hv hE h hb0
  go_enter Tryd.func36, Tryd.ntmps36
  go_wp2_with fail
  refine (bytes_bad HE.out hk2 hk4 HV.out HN.out).mono ?_
  rintro r w1 ⟨rfl, hb⟩
  have HB1 : Hid (Below w.heap.size w w1) := HB0.out.trans (hb.mono HB0.out.size)
  generalize hkk : rootErr e l = kk
  have HKK := Lib.hid hkk
  clear hkk
  unfold ev errV
  clear hb
  go_wp2_with fail
  go_ret
  refine ⟨?_, HB1.out⟩
  rw [HKK.out]; rfl
/-- What may be is laid into a slice ahead of Write. -/
theorem save_pre {e : Int} {v : Value} {l : List Int} (hv : RdK .i64 w v l) (h : rootOk e l) {Q : Ending → World → Prop} (dv : Value)
    (hQ : ∀ (w1 : World) (a : Option Addr) (c : Nat), Below w.heap.size w w1 → OwnB w.heap.size w1 (.slice a 128 c) (rootL e l) →
      Calls Tryd.prog 18 #[dv, .int .i64 (e % 2), .slice a 128 c] w1 fun r w2 =>
        (∃ q, r = .returned (.iface 236 (.pointer (some q))) ∧ Q r w2) ∨
        (r = .returned .nilIface ∧ Calls Tryd.prog 23 #[dv] w2 fun r w3 => ∃ u, r = .returned u ∧ Q (.returned u) w3)) :
    Calls Tryd.prog 36 #[dv, rootV e v] w Q := by
  obtain ⟨a, c, rfl, hlc, hcm⟩ := hv.len
  have hb0 : Below w.heap.size w (w.alloc (.cells #[.int .i64 e, .slice a l.length c] 48)) := by (repeat (first | exact Below.refl _ _ | assumption | refine Below.drew ?_ | refine below_many ?_ _ | refine Below.alloc ?_ (by first | (simp; done) | (simp; omega) | omega) _ | refine Below.setCell ?_ (by first | (simp; done) | (simp; omega) | omega) _))
  have HV := Lib.hid (hv.below hb0)
  have HB0 := Lib.hid hb0
  have HO := Lib.hid h
  have HQ := Lib.hid hQ
  have he : 1 ≤ e := h.1.1
  have he2 : e ≤ 1099511627776 := h.1.2
  have x0 : (w.alloc (.cells #[.int .i64 e, .slice a l.length c] 48)).cell? ⟨w.heap.size, 0, none⟩ = some (.int .i64 e) := cell_new w _ _ 0
  unfold maxLen at hcm
  have hz : w.heap.size < (w.alloc (.cells #[.int .i64 e, .slice a l.length c] 48)).heap.size := by simp
  clear hv h hb0 hQ
  go_enter Tryd.func36, Tryd.ntmps36
  go_wp2_with fail
  refine (bytes_ok HV.out HO.out).mono ?_
  rintro r w1 ⟨u, rfl, hO, hb⟩
  obtain ⟨_, au, cu, rfl⟩ := rdB_of_own hO (rootL_length e l)
  have HOB : Hid (OwnB w.heap.size w1 (.slice au 128 cu) (rootL e l)) := hO.base (by simp)
  have HB1 : Hid (Below w.heap.size w w1) := HB0.out.trans (hb.mono HB0.out.size)
  have x1 := (hb.cell (p := ⟨w.heap.size, 0, none⟩) hz).trans x0
  have hm0 : 0 ≤ e % 2 := Int.emod_nonneg _ (by decide)
  clear hO hb x0
  go_wp2_with fail
  refine (HQ.out w1 au cu HB1.out HOB.out).mono ?_
  rintro r w2 (⟨q, rfl, hq⟩ | ⟨rfl, hF⟩)
  · have HQq := Lib.hid hq
    clear hq
    go_wp2_with fail
    exact HQq.out
  · have HF := Lib.hid hF
    clear hF
    go_wp2_with fail
    refine HF.out.mono ?_
    rintro r w3 ⟨u, rfl, hq⟩
    have HQq := Lib.hid hq
    clear hq
    go_wp2_with fail
    exact HQq.out
/-- The sector that a root is saved in. -/
def secE (e : Int) : Int := e % 2
theorem secE_range (e : Int) : 0 ≤ secE e ∧ secE e < 2 := ⟨Int.emod_nonneg _ (by decide), Int.emod_lt_of_pos _ (by decide)⟩
theorem save_ok (h : DA lo w d fb pb n f P calls fuse down) (hn : n ≤ 8192) (hn2 : 2 ≤ n) (hfu : fuse ≤ 4611686018427387904) (hG : goneD fuse down = false) (hG2 : goneD (goneF fuse down) false = false) (hcb : 0 ≤ calls ∧ calls ≤ 900000) (hlo : lo ≤ w.heap.size) {e : Int} {v : Value} {l : List Int} (hv : RdK .i64 w v l) (hr : rootOk e l) :
    Calls Tryd.prog 36 #[.pointer (some ⟨d, 0, none⟩), rootV e v] w fun r w' => r = .returned .nilIface ∧ ∃ pb', DA lo w' d fb pb' n (rdS f (mput P (secE e) (rootL e l))) [] (calls + 1 + 1) (goneF (goneF fuse down) false) false ∧ w.heap.size ≤ pb' ∧ Keep (fun x => x = d ∨ x = fb ∨ x = pb) w w' := by
  refine save_pre hv hr _ fun w1 a c hb hO => ?_
  have hD1 := h.below hb
  have hdl := h.lt
  refine (da_write hD1 hn hfu hG (e % 2) (secE_range e).1 (by have := (secE_range e).2; unfold secE at this; omega) (by omega) (v := .slice a 128 c) (bs := rootL e l) hO.rd (rootL_length e l) (fun g hg => by have := (World.ownsRow.lt hO g hg).1; omega)).mono ?_
  rintro r w2 ⟨rfl, hD2, hk2⟩
  refine .inr ⟨rfl, ?_⟩
  have hfu2 : goneF fuse down ≤ 4611686018427387904 := by unfold goneF; split <;> omega
  refine (da_flush hD2 hn hfu2 hG2 (by omega) (by have := hb.size; have := hk2.size; omega)).mono ?_
  rintro r w3 ⟨rfl, pb', hD3, hp, hk3⟩
  refine ⟨_, rfl, rfl, pb', hD3, by have := hb.size; have := hk2.size; omega, ?_⟩
  exact ((Keep.of_below hb).trans (hk2.mono fun _ _ h => h.elim .inl (fun h => .inr (.inr h)))).trans (hk3.mono fun _ _ h => h.elim .inl (fun h => .inr (.inl h)))
/-- The power gone at the write. -/
theorem save_gone1 {ks : List Nat} {B : Nat} {p : Nat → Addr} (hE : Errs ks B p w) (h8 : 8 ∈ ks) (hB : B ≤ lo) (h : DA lo w d fb pb n f P calls fuse down) (hfu : fuse ≤ 4611686018427387904) (hG : goneD fuse down = true) {e : Int} {v : Value} {l : List Int} (hv : RdK .i64 w v l) (hr : rootOk e l) :
    Calls Tryd.prog 36 #[.pointer (some ⟨d, 0, none⟩), rootV e v] w fun r w' => r = .returned (ev p 8) ∧ DA lo w' d fb pb n f P calls (goneF fuse down) true ∧ Keep (fun x => x = d) w w' := by
  refine save_pre hv hr _ fun w1 a c hb hO => ?_
  have hD1 := h.below hb
  refine (da_write_gone (hE.below (hb.mono hE.size)) h8 hD1 hB hfu hG _ _).mono ?_
  rintro r w2 ⟨rfl, hD2, hk2⟩
  exact .inl ⟨p 8, rfl, rfl, hD2, (Keep.of_below hb).trans hk2⟩
/-- The power gone at the flush. -/
theorem save_gone2 {ks : List Nat} {B : Nat} {p : Nat → Addr} (hE : Errs ks B p w) (h8 : 8 ∈ ks) (hB : B ≤ lo) (h : DA lo w d fb pb n f P calls fuse down) (hn : n ≤ 8192) (hn2 : 2 ≤ n) (hfu : fuse ≤ 4611686018427387904) (hG : goneD fuse down = false) (hG2 : goneD (goneF fuse down) false = true) (hcb : 0 ≤ calls ∧ calls ≤ 900000) (hlo : lo ≤ w.heap.size) {e : Int} {v : Value} {l : List Int} (hv : RdK .i64 w v l) (hr : rootOk e l) :
    Calls Tryd.prog 36 #[.pointer (some ⟨d, 0, none⟩), rootV e v] w fun r w' => r = .returned (ev p 8) ∧ DA lo w' d fb pb n f (mput P (secE e) (rootL e l)) (calls + 1) (goneF (goneF fuse down) false) true ∧ Keep (fun x => x = d ∨ x = fb ∨ x = pb) w w' := by
  refine save_pre hv hr _ fun w1 a c hb hO => ?_
  have hD1 := h.below hb
  have hdl := h.lt
  have hlow := h.low
  refine (da_write hD1 hn hfu hG (e % 2) (secE_range e).1 (by have := (secE_range e).2; unfold secE at this; omega) (by omega) (v := .slice a 128 c) (bs := rootL e l) hO.rd (rootL_length e l) (fun g hg => by have := (World.ownsRow.lt hO g hg).1; omega)).mono ?_
  rintro r w2 ⟨rfl, hD2, hk2⟩
  refine .inr ⟨rfl, ?_⟩
  have hfu2 : goneF fuse down ≤ 4611686018427387904 := by unfold goneF; split <;> omega
  have hk12 := (Keep.of_below hb).trans hk2
  refine (da_flush_gone ((hE.below (hb.mono hE.size)).below (hk2.below (Nat.le_trans hE.size hb.size) (fun z hz e => by rcases e with e | e <;> omega))) h8 hD2 hB hfu2 hG2).mono ?_
  rintro r w3 ⟨rfl, hD3, hk3⟩
  exact ⟨_, rfl, rfl, hD3, (hk12.mono fun _ _ h => h.elim .inl (fun h => .inr (.inr h))).trans (hk3.mono fun _ _ h => .inl h)⟩
end
end Go.Proofs.YtehacchacgfjlaaDoor
