/- From a row's listed sentinels to what the walks ask ('Errs'); the world in which they lie as their initialisers lay them. -/
import Derived.Test.YtchbkceconlbkaaGreatDoorErr
import Derived.Test.YtchbkceconlbkaaGreatDoorRows
import Derived.ProofKit
import Derived.LaidMore
import Derived.LaidLaws
import Derived.MakeChecks
import Derived.Stop.LaidErr
namespace Go.Proofs.YtchbkceconlbkaaGreatDoor
open Go.ChangeShapes Go.WideShapes Go.ChangeAt
open Go Go.RowKit
set_option linter.unusedSimpArgs false
set_option linter.unusedVariables false

theorem prog_own : ownKnob Tryz.prog.godebug = none := by kernel_rfl
theorem prog_laidOut : laidOutB Tryz.prog = true := by kernel_rfl
theorem errStar : "*" ++ "errors.errorString" = "*errors.errorString" := by decide
theorem errRow (u : TypeId) (h : Tryz.prog.typeName? 3 u = some "*errors.errorString") : u = 146 :=
  typeName_ptr_named (nm := "errors.errorString") (by rw [errStar]; kernel_rfl) (by kernel_rfl) (by decide) u (by rw [errStar]; exact h)

/-- Each listed variable is the sentinel of its number. -/
def Listed : List (String × DataW Unit) → List Nat → Prop
  | [], [] => True
  | (n, d) :: l, k :: ks => Tryz.prog.globalNamed n = some (gl k) ∧ (Tryz.prog.globals[gl k]?).map (·.type) = some 29 ∧ (∃ text, d = .iface "*errors.errorString" (.ptr (.agg [.lit (.string text)]))) ∧ Listed l ks
  | _, _ => False

set_option maxRecDepth 100000 in
theorem errs_of_vars {W : World} : ∀ (l : List (String × DataW Unit)) (ks : List Nat) (ps : List MemPlace), Listed l ks → ks.Nodup → DataW.LaidVars Tryz.prog W l ps → ps.Nodup →
    (∀ b off, MemPlace.cell b off ∈ ps → (∃ c t, W.heap[b]? = some (.cells c t (0, 0))) ∧ ∀ u v, W.cell? ⟨b, off, none⟩ = some (.iface u v) → Value.okWide Tryz.prog W .any 0 u v) →
    ∃ p : Nat → Addr, ∀ k ∈ ks, W.cell? ⟨gl k, 0, none⟩ = some (.iface 146 (.pointer (some (p k)))) ∧ gl k < W.heap.size ∧ MemPlace.cell (p k).block (p k).off ∈ ps ∧ ∀ j ∈ ks, p k = p j → k = j
  | [], [], _, _, _, _, _, _ => ⟨fun _ => ⟨0, 0, none⟩, fun k hk => by cases hk⟩
  | [], _ :: _, _, h, _, _, _, _ => h.elim
  | _ :: _, [], _, h, _, _, _, _ => h.elim
  | (n, d) :: l, k :: ks, ps, ⟨hg, ht, ⟨text, hd⟩, hl⟩, hks, hv, hnd, hrows => by
    obtain ⟨g0, t0, cs0, f0, p0, q0, hg0, ht0, hv0, hd0, hq0, e0⟩ := hv
    obtain rfl := Option.some.inj (hg.symm.trans hg0)
    obtain rfl := Option.some.inj (ht.symm.trans ht0)
    subst hd e0
    obtain ⟨l0⟩ := cs0
    have ok0 : ∀ u v, l0 = [.iface u v] → Value.okWide Tryz.prog W .any 0 u v := fun u v e => by
      subst e
      exact (hrows (gl k) 0 (by simp [MemPlace.row])).2 u v (by simpa using World.var?_cell hg0 hv0 0)
    obtain ⟨a0, s0, rfl, hc0, hs0, hz0, rfl⟩ := errorString_of_trod Tryz.underlying29 errRow Tryz.underlying146 Tryz.underlying148 rfl rfl Tryz.underlying9 (by kernel_rfl) (by kernel_rfl) hd0 ok0
    have hcell : W.cell? ⟨gl k, 0, none⟩ = some (.iface 146 (.pointer (some a0))) := by simpa using World.var?_cell hg hv0 0
    have hsz : gl k < W.heap.size := by
      rcases Nat.lt_or_ge (gl k) W.heap.size with h | h
      · exact h
      · simp [World.cell?, Array.getElem?_eq_none h] at hcell
    have hks' := List.nodup_cons.1 hks
    have hq : q0.Nodup := (List.nodup_append.1 hnd).2.1
    obtain ⟨p, hp⟩ := errs_of_vars l ks q0 hl hks'.2 hq0 hq (fun b off hm => hrows b off (List.mem_append_right _ hm))
    have ha : MemPlace.cell a0.block a0.off ∈ MemPlace.row ⟨gl k, 0, none⟩ (⟨[Value.iface 146 (Value.pointer (some a0))]⟩ : Array Value).size ++ MemPlace.row a0 1 := by simp [MemPlace.row]
    have hna : MemPlace.cell a0.block a0.off ∉ q0 := fun hm => (List.nodup_append.1 hnd).2.2 _ ha _ hm rfl
    refine ⟨fun j => if j = k then a0 else p j, fun j hj => ?_⟩
    rcases List.mem_cons.1 hj with rfl | hj
    · refine ⟨by simpa using hcell, hsz, by simp only [if_true]; exact List.mem_append_left _ ha, fun i hi e => ?_⟩
      rcases List.mem_cons.1 hi with rfl | hi
      · rfl
      · exfalso
        have hne : i ≠ j := fun h => hks'.1 (h ▸ hi)
        simp only [if_true, if_neg hne] at e
        have := (hp i hi).2.2.1
        rw [← e] at this
        exact hna this
    · have hne : j ≠ k := fun h => hks'.1 (h ▸ hj)
      obtain ⟨h1, h2, h3, h4⟩ := hp j hj
      refine ⟨by simpa [hne] using h1, h2, by simp only [if_neg hne]; exact List.mem_append_right _ h3, fun i hi e => ?_⟩
      rcases List.mem_cons.1 hi with rfl | hi
      · exfalso
        simp only [if_true, if_neg hne] at e
        rw [e] at h3
        exact hna h3
      · have hne' : i ≠ k := fun h => hks'.1 (h ▸ hi)
        simp only [if_neg hne, if_neg hne'] at e
        exact h4 i hi e

theorem errs_of_laid {W : World} {l : List (String × DataW Unit)} {ks : List Nat} (h : laidMet Tryz.prog l W) (hl : Listed l ks) (hks : ks.Nodup) : ∃ p, Errs ks W.heap.size p W := by
  obtain ⟨ps, hv, hnd, hrows⟩ := h
  obtain ⟨p, hp⟩ := errs_of_vars l ks ps hl hks hv hnd hrows
  refine ⟨p, Nat.le_refl _, fun k hk => ⟨(hp k hk).2.1, ?_⟩, fun k hk => (hp k hk).1, fun k hk => (hrows _ _ (hp k hk).2.2.1).1, fun k hk j hj e => (hp k hk).2.2.2 j hj e⟩
  obtain ⟨c, t, hb⟩ := (hrows _ _ (hp k hk).2.2.1).1
  exact (Array.getElem?_eq_some_iff.1 hb).1

end Go.Proofs.YtchbkceconlbkaaGreatDoor
