/- wire.Reader: fail, Num, Left, At, Err. -/
import Derived.Test.YtchbkceconlbkaaGreatDoorWireRead
namespace Go.Proofs.YtchbkceconlbkaaGreatDoor
open Go Go.RowKit
set_option linter.unusedSimpArgs false
set_option linter.unusedVariables false

theorem keep_alloc (w : World) (o : Obj) (S : Nat → Prop) : Keep S w (w.alloc o) := by
  have h : Below w.heap.size w (w.alloc o) := (Below.refl _ _).alloc (Nat.le_refl _) _
  exact ⟨h.os, h.tape, h.output, h.size, fun g hg _ => h.block g hg⟩
theorem keep_of_below {w w' : World} (h : Below w.heap.size w w') (S : Nat → Prop) : Keep S w w' := ⟨h.os, h.tape, h.output, h.size, fun g hg _ => h.block g hg⟩

set_option maxHeartbeats 2000000 in
set_option maxRecDepth 100000 in
theorem fail_calls {p : Nat → Addr} {w : World} {rb : Nat} {l : List UInt8} {at0 : Nat} (hR : Rdr p w rb l (at0, none)) {k : Nat} (hk : k < 3) :
    Calls Tryz.prog 62 #[.pointer (some ⟨rb, 0, none⟩), ev p k] w fun e w' => e = .returned (.tuple #[]) ∧ Rdr p w' rb l (at0, some (101 + k, at0)) ∧ Keep (fun x => x = rb) w w' ∧ w'.cell? ⟨rb, 2, none⟩ = some (atV w.heap.size) := by
  have hlt := hR.lt
  have hc1 := hR.c1
  have hf2 := hR.f2
  have hc2 : w.cell? ⟨rb, 2, none⟩ = some .nilIface := by
    rcases hR.c2 with ⟨_, h⟩ | ⟨c, q, eb, h, _⟩
    · exact h
    · cases h
  have hk2 := keep_setCell w ⟨rb, 2, none⟩ (atV w.heap.size)
  have hss : (w.setCell ⟨rb, 2, none⟩ (atV w.heap.size)).heap.size = w.heap.size := by simp
  obtain ⟨w1, hw1⟩ : ∃ w1, w1 = w.setCell ⟨rb, 2, none⟩ (atV w.heap.size) := ⟨_, rfl⟩
  have e0 : w1.cell? ⟨rb, 2, none⟩ = some (atV w.heap.size) := by rw [hw1]; exact World.cell?_setCell_same' _ _ _ (by rw [hc2]; rfl)
  have e1 : w1.cell? ⟨rb, 1, none⟩ = some (.int .i64 at0) := by rw [hw1]; exact (cell_setCell_other (by decide)).trans hR.c1
  have g1 : w1.frozen? ⟨rb, 1, none⟩ = false := by rw [hw1]; exact (frozen_setCell).trans hR.f1
  have g2 : w1.frozen? ⟨rb, 2, none⟩ = false := by rw [hw1]; exact (frozen_setCell).trans hR.f2
  have hbody : ∃ v, w1.cell? ⟨rb, 0, none⟩ = some v ∧ RdB w1 v (bytesI l) ∧ ∀ g, v.ownBlock = some g → g < rb := by
    obtain ⟨v, h1, h2, h3⟩ := hR.body
    refine ⟨v, by rw [hw1]; exact (cell_setCell_other (by decide)).trans h1, ?_, h3⟩
    rw [← hw1] at hk2
    rcases h2 with h | ⟨g, off, cap, rfl, q1, q2, q3, q4⟩
    · exact .inl h
    · exact .inr ⟨g, off, cap, rfl, q1, q2, Nat.lt_of_lt_of_le q3 hk2.size, fun i hi => (hk2.cell (x := ⟨g, off + i, none⟩) q3 (Nat.ne_of_lt (h3 g rfl))).trans (q4 i hi)⟩
  rw [← hw1] at hk2 hss
  have hne : ¬ w.heap.size = rb := by omega
  have hlt1 : rb < w1.heap.size := by omega
  have hb1 : Below w1.heap.size w1 (w1.alloc (Obj.cells #[.int .i64 at0, ev p k] 70)) := (Below.refl _ _).alloc (Nat.le_refl _) _
  have HRd : Hid (Rdr p (w1.alloc (Obj.cells #[.int .i64 at0, ev p k] 70)) rb l (at0, some (101 + k, at0))) := by
    refine ⟨Nat.lt_of_lt_of_le hlt1 hb1.size, ?_, (hb1.cell (p := ⟨rb, 1, none⟩) hlt1).trans e1, .inr ⟨101 + k, at0, w.heap.size, rfl, by omega, by omega, (hb1.cell (p := ⟨rb, 2, none⟩) hlt1).trans e0, ?_, hne⟩, (hb1.frozen (p := ⟨rb, 1, none⟩) hlt1).trans g1, (hb1.frozen (p := ⟨rb, 2, none⟩) hlt1).trans g2⟩
    · obtain ⟨v, h1, h2, h3⟩ := hbody
      exact ⟨v, (hb1.cell (p := ⟨rb, 0, none⟩) hlt1).trans h1, h2.below hb1, h3⟩
    · rw [show 101 + k - 101 = k by omega, ← hss]
      exact ⟨cell_new _ _ _ 0, cell_new _ _ _ 1⟩
  have HK := Lib.hid (hk2.trans (keep_of_below hb1 _))
  have HQ := Lib.hid ((hb1.cell (p := ⟨rb, 2, none⟩) hlt1).trans e0)
  have HW1 := Lib.hid hw1
  clear hR hk2 hb1 hbody e0 e1 g1 g2 hw1 hss hlt1
  unfold ev errV at *
  go_enter Tryz.func62, Tryz.ntmps62
  go_wp2_with fail
  have hw1 := HW1.out
  unfold atV at hw1
  rw [← hw1]
  go_end0
  exact ⟨rfl, HRd.out, HK.out, HQ.out⟩
theorem err_cell {p : Nat → Addr} {w : World} {rb : Nat} {l : List UInt8} {st : Nat × Option (Nat × Nat)} (hR : Rdr p w rb l st) : ∃ ev', w.cell? ⟨rb, 2, none⟩ = some ev' ∧ ((st.2 = none ∧ ev' = .nilIface) ∨ ∃ c q eb, st.2 = some (c, q) ∧ 101 ≤ c ∧ c ≤ 103 ∧ ev' = atV eb ∧ AtCells p w eb q (c - 101)) := by
  rcases hR.c2 with ⟨h1, h2⟩ | ⟨c, q, eb, h1, h2, h3, h4, h5, h6⟩
  · exact ⟨_, h2, .inl ⟨h1, rfl⟩⟩
  · exact ⟨_, h4, .inr ⟨c, q, eb, h1, h2, h3, rfl, h5⟩⟩
theorem Rdr.step {p : Nat → Addr} {w : World} {rb : Nat} {l : List UInt8} {at0 : Nat} (hR : Rdr p w rb l (at0, none)) (at1 : Nat) : Rdr p (w.setCell ⟨rb, 1, none⟩ (.int .i64 at1)) rb l (at1, none) := by
  have hk := keep_setCell w ⟨rb, 1, none⟩ (.int .i64 at1)
  refine ⟨Nat.lt_of_lt_of_le hR.lt hk.size, ?_, World.cell?_setCell_same' _ _ _ (by rw [hR.c1]; rfl), .inl ⟨rfl, ?_⟩, (frozen_setCell).trans hR.f1, (frozen_setCell).trans hR.f2⟩
  · obtain ⟨v, h1, h2, h3⟩ := hR.body
    refine ⟨v, (cell_setCell_other (by decide)).trans h1, ?_, h3⟩
    rcases h2 with h | ⟨g, off, cap, rfl, q1, q2, q3, q4⟩
    · exact .inl h
    · exact .inr ⟨g, off, cap, rfl, q1, q2, Nat.lt_of_lt_of_le q3 hk.size, fun i hi => (hk.cell (x := ⟨g, off + i, none⟩) q3 (Nat.ne_of_lt (h3 g rfl))).trans (q4 i hi)⟩
  · rcases hR.c2 with ⟨_, h⟩ | ⟨c, q, eb, h, _⟩
    · exact (cell_setCell_other (by decide)).trans h
    · cases h
theorem decZ_le : ∀ (l : List UInt8) (i z zz' k : Nat), decZ l i z = .ok zz' k → k ≤ i + l.length ∧ i < k
  | [], i, z, zz', k, h => by simp [decZ] at h
  | c :: r, i, z, zz', k, h => by
    rw [decZ] at h
    split at h
    · cases h
    · split at h
      · have := decZ_le r _ _ _ _ h
        rw [List.length_cons]; omega
      · split at h
        · cases h
        · simp only [Dec.ok.injEq] at h
          rw [List.length_cons]; omega
theorem decZ_lt : ∀ (l : List UInt8) (i z zz' k : Nat), z < 2 ^ (7 * i) → i ≤ 9 → decZ l i z = .ok zz' k → zz' < 2 ^ 64
  | [], i, z, zz', k, _, _, h => by simp [decZ] at h
  | c :: r, i, z, zz', k, hz, hi, h => by
    have hc := c.toNat_lt
    rw [decZ] at h
    split at h
    · cases h
    · rename_i h9
      split at h
      · have hi8 : i ≤ 8 := by
          rcases Nat.lt_or_ge 8 i with h1 | h1
          · exact absurd ⟨by omega, by omega⟩ h9
          · exact h1
        exact decZ_lt r _ _ _ _ (or_lt i z c.toNat hz) (by omega) h
      · split at h
        · cases h
        · simp only [Dec.ok.injEq] at h
          rw [← h.1]
          exact or_lt64 i z c.toNat hi hz hc h9
theorem unzz_bounds {z : Nat} (h : z < 2 ^ 64) : -9223372036854775808 ≤ unzz z ∧ unzz z ≤ 9223372036854775807 := by
  unfold unzz
  split <;> omega
/-- A reader's place stays within its bytes. -/
def rdrOk (l : List UInt8) (st : Nat × Option (Nat × Nat)) : Prop := st.1 ≤ l.length
theorem numStep_ok {l : List UInt8} {lo hi : Int} {st : Nat × Option (Nat × Nat)} (h : rdrOk l st) : rdrOk l (numStep l lo hi st).2 := by
  unfold numStep
  split
  · exact h
  · split
    · exact h
    · exact h
    · rename_i z k hk
      split
      · exact h
      · have := decZ_le _ _ _ _ _ hk
        rw [List.length_drop] at this
        unfold rdrOk at h ⊢
        simp only
        omega

set_option maxHeartbeats 8000000 in
set_option maxRecDepth 100000 in
theorem rdNum_calls {B : Nat} {p : Nat → Addr} {w : World} (hE : Errs (List.range 21) B p w) {rb : Nat} {l : List UInt8} {st : Nat × Option (Nat × Nat)} (hR : Rdr p w rb l st) (hok : rdrOk l st) (hl : l.length ≤ 1000) (lo hi : Int) :
    Calls Tryz.prog 36 #[.pointer (some ⟨rb, 0, none⟩), .int .i64 lo, .int .i64 hi] w fun e w' => e = .returned (.int .i64 (numStep l lo hi st).1) ∧ Rdr p w' rb l (numStep l lo hi st).2 ∧ Keep (fun x => x = rb) w w' ∧ ∀ eb, w'.cell? ⟨rb, 2, none⟩ = some (atV eb) → w.cell? ⟨rb, 2, none⟩ = some (atV eb) ∨ w.heap.size ≤ eb := by
  have hlt := hR.lt
  obtain ⟨at0, err⟩ := st
  cases err with
  | some cq =>
    obtain ⟨ev', h2, h3⟩ := err_cell hR
    rcases h3 with ⟨h, _⟩ | ⟨c, q, eb, h, _, _, rfl, _⟩
    · cases h
    obtain rfl : cq = (c, q) := Option.some.inj h
    clear h
    have hs : numStep l lo hi (at0, some (c, q)) = (0, (at0, some (c, q))) := rfl
    rw [hs]
    have HR := Lib.hid hR
    clear hR hE hs
    go_enter Tryz.func36, Tryz.ntmps36
    go_wp2_with fail
    go_ret
    exact ⟨rfl, HR.out, Keep.refl _ _, fun eb h => .inl h⟩
  | none =>
    have h2 : w.cell? ⟨rb, 2, none⟩ = some .nilIface := by
      obtain ⟨ev', h2, h3⟩ := err_cell hR
      rcases h3 with ⟨_, rfl⟩ | ⟨c, q, eb, h, _⟩
      · exact h2
      · cases h
    have HN := Lib.hid (rdNumber_calls hE hR hok hl)
    have HE := Lib.hid hE
    have HR := Lib.hid hR
    have hgl : 0 < w.heap.size := Nat.lt_of_lt_of_le (hE.lt 2 (by decide)).1 hE.size
    unfold numStep
    simp only
    clear hE hR
    dsimp only at HN
    cases hd : decZ (l.drop at0) 0 0 with
    | fin =>
      rw [hd] at HN
      unfold decV ev errV at HN
      clear hd
      go_enter Tryz.func36, Tryz.ntmps36
      go_wp2_with fail
      refine HN.out.mono ?_
      rintro e w1 ⟨rfl, hb⟩
      have HF := Lib.hid (fail_calls (HR.out.below hb) (k := 0) (by decide))
      unfold ev errV at HF
      have HK := Lib.hid (keep_of_below hb (fun x => x = rb))
      have HSz := Lib.hid hb.size
      clear hb
      go_wp2_with fail
      refine HF.out.mono ?_
      rintro e w2 ⟨rfl, hR2, hk2, hq2⟩
      have HQ2 : Hid (∀ eb, w2.cell? ⟨rb, 2, none⟩ = some (atV eb) → w.cell? ⟨rb, 2, none⟩ = some (atV eb) ∨ w.heap.size ≤ eb) := fun eb h => .inr (by rw [hq2] at h; simp only [Option.some.injEq, Value.iface.injEq, Value.pointer.injEq, Addr.mk.injEq, true_and, and_true] at h; have := HSz.out; omega)
      have HR2 := Lib.hid hR2
      have HK := Lib.hid (HK.out.trans hk2)
      clear hR2 hk2 hq2
      go_wp2_with fail
      go_ret
      exact ⟨rfl, HR2.out, HK.out, HQ2.out⟩
    | shape =>
      rw [hd] at HN
      unfold decV ev errV at HN
      clear hd
      go_enter Tryz.func36, Tryz.ntmps36
      go_wp2_with fail
      refine HN.out.mono ?_
      rintro e w1 ⟨rfl, hb⟩
      have HF := Lib.hid (fail_calls (HR.out.below hb) (k := 1) (by decide))
      unfold ev errV at HF
      have HK := Lib.hid (keep_of_below hb (fun x => x = rb))
      have HSz := Lib.hid hb.size
      clear hb
      go_wp2_with fail
      refine HF.out.mono ?_
      rintro e w2 ⟨rfl, hR2, hk2, hq2⟩
      have HQ2 : Hid (∀ eb, w2.cell? ⟨rb, 2, none⟩ = some (atV eb) → w.cell? ⟨rb, 2, none⟩ = some (atV eb) ∨ w.heap.size ≤ eb) := fun eb h => .inr (by rw [hq2] at h; simp only [Option.some.injEq, Value.iface.injEq, Value.pointer.injEq, Addr.mk.injEq, true_and, and_true] at h; have := HSz.out; omega)
      have HR2 := Lib.hid hR2
      have HK := Lib.hid (HK.out.trans hk2)
      clear hR2 hk2 hq2
      go_wp2_with fail
      go_ret
      exact ⟨rfl, HR2.out, HK.out, HQ2.out⟩
    | ok z k =>
      rw [hd] at HN
      dsimp only [decV] at HN
      have hle := decZ_le _ _ _ _ _ hd
      rw [List.length_drop] at hle
      have hok' : at0 ≤ l.length := hok
      clear hd
      dsimp only
      generalize unzz z = n at HN ⊢
      by_cases hbad : n < lo ∨ hi < n
      · rw [if_pos hbad]
        have HBad := Lib.hid hbad
        clear hbad
        go_enter Tryz.func36, Tryz.ntmps36
        go_wp2_with fail
        refine HN.out.mono ?_
        rintro e w1 ⟨rfl, hb⟩
        have HF := Lib.hid (fail_calls (HR.out.below hb) (k := 2) (by decide))
        unfold ev errV at HF
        have HK := Lib.hid (keep_of_below hb (fun x => x = rb))
        have HSz := Lib.hid hb.size
        have hg := (HE.out.below (hb.mono HE.out.size)).cell 2 (by decide)
        change w1.cell? ⟨0, 0, none⟩ = some (.iface 146 (.pointer (some (p 2)))) at hg
        clear hb
        go_upto_region 4 with fail
        go_cut [32] (fun v wx => v = .bool true ∧ w1 = wx)
        case first =>
          by_cases h1 : n < lo
          · have d1 : decide (n < lo) = true := decide_eq_true h1
            go_wp2_with fail
            go_meet
            exact ⟨rfl, rfl⟩
          · have d1 : decide (n < lo) = false := decide_eq_false h1
            have d2 : decide (n > hi) = true := decide_eq_true (by have := HBad.out; omega)
            go_wp2_with fail
            go_meet
            exact ⟨rfl, rfl⟩
        case rest =>
          obtain ⟨rfl, rfl⟩ := hcut
          go_wp2_with fail
          refine HF.out.mono ?_
          rintro e w2 ⟨rfl, hR2, hk2, hq2⟩
          have HQ2 : Hid (∀ eb, w2.cell? ⟨rb, 2, none⟩ = some (atV eb) → w.cell? ⟨rb, 2, none⟩ = some (atV eb) ∨ w.heap.size ≤ eb) := fun eb h => .inr (by rw [hq2] at h; simp only [Option.some.injEq, Value.iface.injEq, Value.pointer.injEq, Addr.mk.injEq, true_and, and_true] at h; have := HSz.out; omega)
          have HR2 := Lib.hid hR2
          have HK := Lib.hid (HK.out.trans hk2)
          clear hR2 hk2 hq2
          go_wp2_with fail
          go_ret
          exact ⟨rfl, HR2.out, HK.out, HQ2.out⟩
      · rw [if_neg hbad]
        have d1 : decide (n < lo) = false := decide_eq_false (by omega)
        have d2 : decide (n > hi) = false := decide_eq_false (by omega)
        have hsum : (at0 : Int) + (k : Int) = ((at0 + k : Nat) : Int) := by omega
        have hws : IntKind.i64.wrap ((at0 + k : Nat) : Int) = ((at0 + k : Nat) : Int) := IntWalk.i64_in _ (by omega)
        generalize at0 + k = at1 at hsum hws ⊢
        clear hbad
        go_enter Tryz.func36, Tryz.ntmps36
        go_wp2_with fail
        refine HN.out.mono ?_
        rintro e w1 ⟨rfl, hb⟩
        have hR1 := HR.out.below hb
        have HR2 := Lib.hid (hR1.step at1)
        have HQ2 : Hid (∀ eb, (w1.setCell ⟨rb, 1, none⟩ (.int .i64 at1)).cell? ⟨rb, 2, none⟩ = some (atV eb) → w.cell? ⟨rb, 2, none⟩ = some (atV eb) ∨ w.heap.size ≤ eb) := fun eb h => by
          rcases (hR1.step at1).c2 with ⟨_, h2⟩ | ⟨c, q, eb', h2, _⟩
          · rw [h2] at h; cases h
          · cases h2
        have e1 := hR1.c1
        have g1 := hR1.f1
        have hlt1 := hR1.lt
        have HK := Lib.hid ((keep_of_below hb (fun x => x = rb)).trans (keep_setCell w1 ⟨rb, 1, none⟩ (.int .i64 at1)))
        clear hb hR1
        go_wp2_with fail
        go_ret
        exact ⟨rfl, HR2.out, HK.out, HQ2.out⟩

/-- What changes other blocks alone lets a reader be. -/
theorem Rdr.keepG {p : Nat → Addr} {w w' : World} {rb : Nat} {l : List UInt8} {st : Nat × Option (Nat × Nat)} {S : Nat → Prop} (h : Rdr p w rb l st) (k : Keep S w w') (h1 : ∀ g, S g → rb < g) (h2 : ∀ eb, w.cell? ⟨rb, 2, none⟩ = some (atV eb) → ¬ S eb) : Rdr p w' rb l st := by
  have hn : ¬ S rb := fun h => Nat.lt_irrefl _ (h1 rb h)
  refine ⟨Nat.lt_of_lt_of_le h.lt k.size, ?_, (k.cell (x := ⟨rb, 1, none⟩) h.lt hn).trans h.c1, ?_, (k.frozen (x := ⟨rb, 1, none⟩) h.lt hn).trans h.f1, (k.frozen (x := ⟨rb, 2, none⟩) h.lt hn).trans h.f2⟩
  · obtain ⟨v, q1, q2, q3⟩ := h.body
    refine ⟨v, (k.cell (x := ⟨rb, 0, none⟩) h.lt hn).trans q1, ?_, q3⟩
    rcases q2 with h | ⟨g, off, cap, rfl, r1, r2, r3, r4⟩
    · exact .inl h
    · exact .inr ⟨g, off, cap, rfl, r1, r2, Nat.lt_of_lt_of_le r3 k.size, fun i hi => (k.cell (x := ⟨g, off + i, none⟩) r3 (fun hS => by have a := h1 g hS; have b := q3 g rfl; omega)).trans (r4 i hi)⟩
  · rcases h.c2 with ⟨q1, q2⟩ | ⟨c, q, eb, q1, q2, q3, q4, q5, q6⟩
    · exact .inl ⟨q1, (k.cell (x := ⟨rb, 2, none⟩) h.lt hn).trans q2⟩
    · exact .inr ⟨c, q, eb, q1, q2, q3, (k.cell (x := ⟨rb, 2, none⟩) h.lt hn).trans q4, ⟨(k.cell (x := ⟨eb, 0, none⟩) q5.lt (h2 eb q4)).trans q5.pos, (k.cell (x := ⟨eb, 1, none⟩) q5.lt (h2 eb q4)).trans q5.err⟩, q6⟩
theorem rdLeft_calls {p : Nat → Addr} {w : World} {rb : Nat} {l : List UInt8} {st : Nat × Option (Nat × Nat)} (hR : Rdr p w rb l st) (hok : rdrOk l st) (hl : l.length ≤ 1000) :
    Calls Tryz.prog 38 #[.pointer (some ⟨rb, 0, none⟩)] w fun e w' => e = .returned (.int .i64 ((l.length : Int) - st.1)) ∧ Below w.heap.size w w' := by
  obtain ⟨v, hv0, hvR, hvb⟩ := hR.body
  have hlen : (bytesI l).length = l.length := by simp [bytesI]
  obtain ⟨va, vc, rfl, hvc, hvm⟩ := hvR.len
  rw [hlen] at hv0
  have hc1 := hR.c1
  have hlt := hR.lt
  have hok' : st.1 ≤ l.length := hok
  have hw : IntKind.i64.wrap ((l.length : Int) - (st.1 : Int)) = (l.length : Int) - st.1 := IntWalk.i64_in _ (by omega)
  generalize st.1 = at0 at *
  clear hR hvR hvb hok
  go_enter Tryz.func38, Tryz.ntmps38
  go_wp2_with fail
  go_quiet (fail)
  go_wp2_with fail
  go_ret
  exact ⟨rfl, below_many (Below.refl _ _) _⟩
theorem rdAt_calls {p : Nat → Addr} {w : World} {rb : Nat} {l : List UInt8} {st : Nat × Option (Nat × Nat)} (hR : Rdr p w rb l st) :
    Calls Tryz.prog 39 #[.pointer (some ⟨rb, 0, none⟩)] w fun e w' => e = .returned (.int .i64 st.1) ∧ w = w' := by
  have hc1 := hR.c1
  have hlt := hR.lt
  clear hR
  go_enter Tryz.func39, Tryz.ntmps39
  go_wp2_with fail
  go_ret
  exact ⟨rfl, rfl⟩
theorem rdErr_calls {w : World} {rb : Nat} {v : Value} (hv : w.cell? ⟨rb, 2, none⟩ = some v) (hc : v = .nilIface ∨ ∃ eb, v = atV eb) (hlt : rb < w.heap.size) :
    Calls Tryz.prog 37 #[.pointer (some ⟨rb, 0, none⟩)] w fun e w' => e = .returned v ∧ w = w' := by
  go_enter Tryz.func37, Tryz.ntmps37
  rcases hc with rfl | ⟨eb, rfl⟩
  · go_wp2_with fail
    go_ret
    exact ⟨rfl, rfl⟩
  · go_wp2_with fail
    go_ret
    exact ⟨rfl, rfl⟩
end Go.Proofs.YtchbkceconlbkaaGreatDoor
