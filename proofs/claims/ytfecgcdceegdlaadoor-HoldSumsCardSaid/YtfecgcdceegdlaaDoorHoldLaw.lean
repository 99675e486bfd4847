/- The law of HoldSums without a program: what a thing makes of the holdings; the sum of an asset. -/
import Derived.Test.YtfecgcdceegdlaaDoorHoldAt
namespace Go.Proofs.YtfecgcdceegdlaaDoor
open Go.Maps
open Go Go.RowKit
set_option linter.unusedSimpArgs false
set_option linter.unusedVariables false

/-- Each place once, within its bounds, with something. -/
structure HOk (m : SpotM) : Prop where
  nodup : (m.map (·.1)).Nodup
  bd : ∀ x ∈ m, 1 ≤ x.2 ∧ x.2 ≤ 1000000000000
theorem HOk.nil : HOk [] := ⟨List.nodup_nil, fun x h => by cases h⟩
theorem HOk.get {m : SpotM} (h : HOk m) (k : Int × Int) : 0 ≤ (mget m k).getD 0 ∧ (mget m k).getD 0 ≤ 1000000000000 := by
  cases hg : mget m k with
  | none => simp
  | some v => have := h.bd _ (mget_mem hg); simp only [Option.getD_some]; omega
theorem HOk.put {m : SpotM} (h : HOk m) (k : Int × Int) {v : Int} (h1 : 1 ≤ v) (h2 : v ≤ 1000000000000) : HOk (mput m k v) :=
  ⟨mnodup_mput h.nodup _ _, fun x hx => by
    rcases mem_mput hx with rfl | hx
    · exact ⟨h1, h2⟩
    · exact h.bd x hx⟩
theorem HOk.del {m : SpotM} (h : HOk m) (k : Int × Int) : HOk (mdel m k) :=
  ⟨mnodup_mdel h.nodup _, fun x hx => h.bd x (mem_mdel hx).1⟩
theorem map_none {m : SpotM} {k : Int × Int} {v : Int} (h : ∀ x ∈ m, x.1 ≠ k) : (m.map fun x => if x.1 = k then (k, v) else x) = m := by
  conv => rhs; rw [← List.map_id m]
  exact List.map_congr_left fun x hx => by rw [if_neg (h x hx)]; rfl
theorem sumH_map : ∀ {m : SpotM} {k : Int × Int} {v g : Int} (a : Int), (m.map (·.1)).Nodup → mget m k = some g → sumH (m.map fun x => if x.1 = k then (k, v) else x) a = sumH m a + (if k.2 = a then v - g else 0)
  | [], k, v, g, a, _, h => by simp [mget] at h
  | x :: m, k, v, g, a, hn, h => by
    rw [List.map_cons, List.nodup_cons] at hn
    rw [List.map_cons, sumH_cons, sumH_cons]
    by_cases hx : x.1 = k
    · have hm : ∀ y ∈ m, y.1 ≠ k := fun y hy e => hn.1 (List.mem_map.2 ⟨y, hy, by rw [e, hx]⟩)
      rw [map_none hm, if_pos hx]
      have hg : x.2 = g := by simpa [mget, hx] using h
      subst hx
      simp only
      split <;> omega
    · have h' : mget m k = some g := by simpa [mget, hx] using h
      rw [if_neg hx, sumH_map a hn.2 h']
      omega
theorem sumH_mput {m : SpotM} (h : HOk m) (k : Int × Int) (v : Int) (a : Int) : sumH (mput m k v) a = sumH m a + (if k.2 = a then v - (mget m k).getD 0 else 0) := by
  unfold mput
  cases hg : mget m k with
  | none => simp [sumH_append, sumH_cons, sumH_nil]
  | some g => simp only [Option.isSome_some, if_true, Option.getD_some]; exact sumH_map a h.nodup hg
theorem del_none {m : SpotM} {k : Int × Int} (h : ∀ x ∈ m, x.1 ≠ k) : mdel m k = m := List.filter_eq_self.2 fun x hx => by simpa using h x hx
theorem sumH_mdel' : ∀ {m : SpotM} {k : Int × Int} (a : Int), (m.map (·.1)).Nodup → sumH (mdel m k) a = sumH m a - (if k.2 = a then (mget m k).getD 0 else 0)
  | [], k, a, _ => by simp [mdel, mget, sumH_nil]
  | x :: m, k, a, hn => by
    rw [List.map_cons, List.nodup_cons] at hn
    by_cases hx : x.1 = k
    · have hm : ∀ y ∈ m, y.1 ≠ k := fun y hy e => hn.1 (List.mem_map.2 ⟨y, hy, by rw [e, hx]⟩)
      have e1 : mdel (x :: m) k = m := by
        have := del_none hm
        unfold mdel at this ⊢
        rw [List.filter_cons]
        simp [hx]
        simpa using hm
      have e2 : (mget (x :: m) k).getD 0 = x.2 := by simp [mget, hx]
      rw [e1, e2, sumH_cons]
      subst hx
      split <;> omega
    · have e1 : mdel (x :: m) k = x :: mdel m k := by unfold mdel; rw [List.filter_cons]; simp [hx]
      have e2 : mget (x :: m) k = mget m k := by simp [mget, hx]
      rw [e1, e2, sumH_cons, sumH_cons, sumH_mdel' a hn.2]
      omega
theorem sumH_mdel {m : SpotM} (h : HOk m) (k : Int × Int) (a : Int) : sumH (mdel m k) a = sumH m a - (if k.2 = a then (mget m k).getD 0 else 0) := sumH_mdel' a h.nodup
theorem mdel_len (m : SpotM) (k : Int × Int) : (mdel m k).length ≤ m.length := List.length_filter_le _ _
/-- A thing: taken?, whose, of what, how much. -/
abbrev DoH := Bool × Int × Int × Int
/-- What a thing makes of the holdings. -/
def doneH (m : SpotM) (d : DoH) : SpotM :=
  let g := (mget m (d.2.1, d.2.2.1)).getD 0
  if spotOK d.2.1 d.2.2.1 d.2.2.2 = false then m
  else if d.1 = true then (if g < d.2.2.2 then m else if g = d.2.2.2 then mdel m (d.2.1, d.2.2.1) else mput m (d.2.1, d.2.2.1) (g - d.2.2.2))
  else if 1000000000000 < g + d.2.2.2 then m else mput m (d.2.1, d.2.2.1) (g + d.2.2.2)
theorem doneH_ok {m : SpotM} (h : HOk m) (d : DoH) : HOk (doneH m d) := by
  have hg := h.get (d.2.1, d.2.2.1)
  unfold doneH
  dsimp only
  split
  · exact h
  · rename_i hs
    have hs' : spotOK d.2.1 d.2.2.1 d.2.2.2 = true := by simpa using hs
    simp only [spotOK, decide_eq_true_eq] at hs'
    split
    · split
      · exact h
      · split
        · exact h.del _
        · exact h.put _ (by omega) (by omega)
    · split
      · exact h
      · exact h.put _ (by omega) (by omega)
theorem doneH_len (m : SpotM) (d : DoH) : (doneH m d).length ≤ m.length + 1 := by
  unfold doneH
  dsimp only
  have h1 := mdel_len m (d.2.1, d.2.2.1)
  have h2 := fun v => mlen_mput m (d.2.1, d.2.2.1) v
  split
  · omega
  · split
    · split
      · omega
      · split
        · omega
        · exact h2 _
    · split
      · omega
      · exact h2 _
end Go.Proofs.YtfecgcdceegdlaaDoor
