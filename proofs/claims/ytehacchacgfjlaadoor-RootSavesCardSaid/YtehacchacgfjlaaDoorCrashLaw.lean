/- What a fall leaves of a disk's sectors: plain lists, no program in sight. -/
import Derived.Test.YtehacchacgfjlaaDoorLib
namespace Go.Proofs.YtehacchacgfjlaaDoor
open Go Go.RowKit
set_option linter.unusedSimpArgs false
set_option linter.unusedVariables false

/-- What a fall leaves of a sector that had p pending and f flushed. -/
def tear (p f : List Int) (pick : Int) : List Int :=
  if pick % 3 = 1 then p else if pick % 3 = 2 then p.take (pick / 3 % 129).toNat ++ f.drop (pick / 3 % 129).toNat else f
/-- One pick after the other, at the sectors ks. -/
def crashTo (p : Int → List Int) : List Int → List Int → (Int → List Int) → (Int → List Int)
  | k :: ks, q :: qs, f => crashTo p ks qs (fun j => if j = k then tear (p k) (f k) q else f j)
  | _, _, f => f
theorem crashTo_nil (p : Int → List Int) (ks : List Int) (f : Int → List Int) : crashTo p ks [] f = f := by
  cases ks <;> rfl
theorem crashTo_none (p : Int → List Int) (qs : List Int) (f : Int → List Int) : crashTo p [] qs f = f := by
  cases qs <;> rfl
theorem crashTo_step (p : Int → List Int) (ks qs : List Int) (f : Int → List Int) (k : Nat) (h1 : k < ks.length) (h2 : k < qs.length) :
    crashTo p (ks.drop k) (qs.drop k) f = crashTo p (ks.drop (k + 1)) (qs.drop (k + 1)) (fun j => if j = ks.getD k 0 then tear (p (ks.getD k 0)) (f (ks.getD k 0)) (qs.getD k 0) else f j) := by
  rw [List.drop_eq_getElem_cons h1, List.drop_eq_getElem_cons h2]
  simp only [crashTo, List.getD, List.getElem?_eq_getElem h1, List.getElem?_eq_getElem h2, Option.getD_some]
theorem crashTo_out (p : Int → List Int) (ks : List Int) : ∀ (qs : List Int) (f : Int → List Int) (i : Int), i ∉ ks → crashTo p ks qs f i = f i := by
  induction ks with
  | nil => intro qs f i _; rw [crashTo_none]
  | cons k ks ih =>
    intro qs f i hi
    cases qs with
    | nil => rfl
    | cons q qs =>
      simp only [crashTo]
      rw [ih qs _ i (fun h => hi (List.mem_cons_of_mem _ h))]
      rw [if_neg (fun h => hi (by rw [h]; exact List.mem_cons_self))]
/-- A sector that is pending, of which there is a pick, or is none. -/
theorem crashTo_in (p : Int → List Int) (ks : List Int) (hnd : ks.Nodup) : ∀ (qs : List Int) (f : Int → List Int) (n : Nat), n < ks.length → crashTo p ks qs f (ks.getD n 0) = if n < qs.length then tear (p (ks.getD n 0)) (f (ks.getD n 0)) (qs.getD n 0) else f (ks.getD n 0) := by
  induction ks with
  | nil => intro qs f n hn; simp at hn
  | cons k ks ih =>
    intro qs f n hn
    obtain ⟨hk, hnd'⟩ := List.nodup_cons.1 hnd
    cases qs with
    | nil => simp [crashTo]
    | cons q qs =>
      simp only [crashTo]
      cases n with
      | zero =>
        have e : (k :: ks).getD 0 0 = k := rfl
        rw [e, crashTo_out p ks qs _ k hk, if_pos rfl, if_pos (by simp)]
        rfl
      | succ n =>
        have hn' : n < ks.length := by simpa using hn
        have e : (k :: ks).getD (n + 1) 0 = ks.getD n 0 := rfl
        have hne : ks.getD n 0 ≠ k := fun h => hk (by rw [← h]; simp [List.getD, hn'])
        rw [e, ih hnd' qs _ n hn', if_neg hne]
        simp only [List.length_cons, Nat.add_lt_add_iff_right]
        rfl
theorem tear_length (p f : List Int) (q : Int) (hp : p.length = 128) (hf : f.length = 128) : (tear p f q).length = 128 := by
  unfold tear
  have h1 := Int.emod_nonneg (q / 3) (show (129 : Int) ≠ 0 by decide)
  have h2 := Int.emod_lt_of_pos (q / 3) (show (0 : Int) < 129 by decide)
  split
  · exact hp
  · split
    · rw [List.length_append, List.length_take, List.length_drop]; omega
    · exact hf
end Go.Proofs.YtehacchacgfjlaaDoor
