/- A ladder and the reference's cuts, step by step (plain law of CutPlays; contracts at whatever input). -/
import Derived.Test.YtehacchacgfjlaaDoorCutsRef2
import Derived.Test.YtehacchacgfjlaaDoorPairLaw
import Derived.Test.YtehacchacgfjlaaDoorSortC
import Derived.Test.YtehacchacgfjlaaDoorSee
import Derived.Test.YtehacchacgfjlaaDoorFlat
namespace Go.Proofs.YtehacchacgfjlaaDoor
open Go.Maps
open Go Go.RowKit
set_option linter.unusedSimpArgs false
set_option linter.unusedVariables false

abbrev CutM := List ((Int × Int) × Int)
/-- A ladder at block b: its map's block is r. -/
structure LadR (w : World) (b : Nat) (r : Option Nat) (m : CutM) (fx : Int) : Prop where
  cmap : w.cell? ⟨b, 0, none⟩ = some (.map r)
  map : StepMap w r m
  cfx : w.cell? ⟨b, 0 + 1, none⟩ = some (.int .i64 fx)
  free : w.frozen? ⟨b, 0, none⟩ = false
  free' : w.frozen? ⟨b, 0 + 1, none⟩ = false
  fxb : 0 ≤ fx ∧ fx ≤ 10000
  bd : ∀ x ∈ m, 0 ≤ x.2 ∧ x.2 ≤ 10000
theorem LadR.lt {w : World} {b : Nat} {r : Option Nat} {m : CutM} {fx : Int} (h : LadR w b r m fx) : b < w.heap.size := World.block_lt_of_cell? w ⟨b, 0, none⟩ h.cmap
theorem LadR.keep {S : Nat → Prop} {w w' : World} {b : Nat} {r : Option Nat} {m : CutM} {fx : Int} (h : LadR w b r m fx) (k : Keep S w w') (hb : ¬ S b) (hr : ∀ x, r = some x → ¬ S x) : LadR w' b r m fx :=
  ⟨(k.cell (x := ⟨b, 0, none⟩) h.lt hb).trans h.cmap, h.map.keep k hr, (k.cell (x := ⟨b, 0 + 1, none⟩) h.lt hb).trans h.cfx, (k.frozen (x := ⟨b, 0, none⟩) h.lt hb).trans h.free, (k.frozen (x := ⟨b, 0 + 1, none⟩) h.lt hb).trans h.free', h.fxb, h.bd⟩
theorem LadR.below {w w' : World} {b : Nat} {r : Option Nat} {m : CutM} {fx : Int} (h : LadR w b r m fx) (k : Below w.heap.size w w') : LadR w' b r m fx :=
  h.keep (S := fun _ => False) (Keep.of_below k) (fun h => h) (fun _ _ h => h)

/-- The answer as an error, and as the reference's number. -/
def okV (p : Nat → Addr) (ok : Bool) : Value := if ok then .nilIface else ev p 2
def okN (ok : Bool) : Int := if ok then 0 else 103
theorem is_okV {B : Nat} {p : Nat → Addr} {w : World} (hE : Errs (List.range 21) B p w) (ok : Bool) :
    Calls Tryd.prog 19 #[okV p ok, .int .i64 (okN ok)] w fun e w' => e = .returned (.bool true) ∧ Below w.heap.size w w' := by
  cases ok with
  | true => exact is_nil 0 w
  | false => exact is_ev hE (k := 2) (by decide) 103

theorem stepOK_iff {c b bp : Int} : stepOK c b bp = true ↔ (1 ≤ c ∧ c ≤ 6 ∧ 0 ≤ b ∧ b ≤ 5 ∧ 0 ≤ bp ∧ bp ≤ 10000) := by
  simp only [stepOK, decide_eq_true_eq]
  omega
theorem ladR_set {B : Nat} {p : Nat → Addr} {w : World} (hE : Errs (List.range 21) B p w) {b : Nat} {r : Option Nat} {m : CutM} {fx : Int} (h : LadR w b r m fx) (cls bk bp : Int) :
    Calls Tryd.prog 40 #[.pointer (some ⟨b, 0, none⟩), .agg #[.int .i64 cls, .int .i64 bk], .int .i64 bp] w fun e w' => e = .returned (okV p (stepOK cls bk bp)) ∧
      ∃ r', LadR w' b r' (if stepOK cls bk bp then mput m (cls, bk) bp else m) fx ∧ (r' = r ∨ ∃ nb, r' = some nb ∧ w.heap.size ≤ nb) ∧ Keep (fun x => x = b ∨ r = some x) w w' := by
  cases hv : stepOK cls bk bp with
  | true =>
    refine (cutSet_ok h.cmap h.free h.map cls bk bp hv).mono ?_
    rintro e w' ⟨rfl, r', hm', hf⟩
    refine ⟨rfl, r', ⟨hf.cell, hm', (hf.others (0 + 1) (by omega)).trans h.cfx, (hf.froz 0).trans h.free, (hf.froz (0 + 1)).trans h.free', h.fxb, fun x hx => ?_⟩, hf.now, hf.keep⟩
    rcases mem_mput hx with rfl | hx
    · have := stepOK_iff.1 hv
      simp only; omega
    · exact h.bd x hx
  | false =>
    refine (cutSet_bad hE (by decide) _ cls bk bp hv).mono ?_
    rintro e w' ⟨rfl, hb⟩
    exact ⟨rfl, r, h.below hb, .inl rfl, Keep.of_below hb⟩
theorem ladR_fx {B : Nat} {p : Nat → Addr} {w : World} (hE : Errs (List.range 21) B p w) {b : Nat} {r : Option Nat} {m : CutM} {fx : Int} (h : LadR w b r m fx) (bp : Int) :
    Calls Tryd.prog 46 #[.pointer (some ⟨b, 0, none⟩), .int .i64 bp] w fun e w' => e = .returned (okV p (isBp bp)) ∧
      LadR w' b r m (if isBp bp then bp else fx) ∧ Keep (fun x => x = b) w w' := by
  cases hv : isBp bp with
  | true =>
    refine (setFx_ok h.cfx h.free' bp hv).mono ?_
    rintro e w' ⟨rfl, rfl⟩
    refine ⟨rfl, ⟨?_, h.map.setCell h.cfx, ?_, by rw [frozen_setCell]; exact h.free, by rw [frozen_setCell]; exact h.free', by simpa [isBp] using hv, h.bd⟩, keep_setCell w ⟨b, 0 + 1, none⟩ _⟩
    · rw [cell_setCell_other (by omega)]; exact h.cmap
    · exact World.cell?_setCell_same' w _ _ (by rw [h.cfx]; rfl)
  | false =>
    refine (setFx_bad hE (by decide) _ bp hv).mono ?_
    rintro e w' ⟨rfl, rfl⟩
    exact ⟨rfl, h, Keep.refl _ _⟩
theorem cuts_set {w : World} {g : Nat} {m : CutM} {fx : Int} (h : Arr w g 73 (cutsF m fx)) (c b bp : Int) :
    Calls Tryd.prog 45 #[.pointer (some ⟨g, 0, none⟩), .int .i64 c, .int .i64 b, .int .i64 bp] w fun e w' => e = .returned (.int .i64 (okN (stepOK c b bp))) ∧
      Arr w' g 73 (cutsF (if stepOK c b bp then mput m (c, b) bp else m) fx) ∧ Keep (fun x => x = g) w w' := by
  cases hv : stepOK c b bp with
  | true =>
    obtain ⟨h1, h2, h3, h4, h5, h6⟩ := stepOK_iff.1 hv
    exact cutsSet_ok h c b bp h1 h2 h3 h4 h5 h6
  | false =>
    refine (cutsSet_bad c b bp (fun h' => by rw [stepOK_iff.2 h'] at hv; cases hv)).mono ?_
    rintro e w' ⟨rfl, rfl⟩
    exact ⟨rfl, h, Keep.refl _ _⟩
theorem cuts_fx {w : World} {g : Nat} {m : CutM} {fx : Int} (h : Arr w g 73 (cutsF m fx)) (bp : Int) :
    Calls Tryd.prog 47 #[.pointer (some ⟨g, 0, none⟩), .int .i64 bp] w fun e w' => e = .returned (.int .i64 (okN (isBp bp))) ∧
      Arr w' g 73 (cutsF m (if isBp bp then bp else fx)) ∧ Keep (fun x => x = g) w w' := by
  cases hv : isBp bp with
  | true =>
    have := of_decide_eq_true hv
    exact cutsFx_ok h bp this.1 this.2
  | false =>
    refine (cutsFx_bad bp (of_decide_eq_false hv)).mono ?_
    rintro e w' ⟨rfl, rfl⟩
    exact ⟨rfl, h, Keep.refl _ _⟩

/-- What is set after k rounds. -/
def cpNext (s : CutM × Int) (x1 x2 x3 x4 : Int) : CutM × Int := if x1 = 1 then (if stepOK x2 x3 x4 then mput s.1 (x2, x3) x4 else s.1, s.2) else (s.1, if isBp x4 then x4 else s.2)
def cpHave (zs : List Int) : Nat → CutM × Int
  | 0 => ([], 0)
  | k + 1 => cpNext (cpHave zs k) (zs.getD (k * 4) 0) (zs.getD (k * 4 + 1) 0) (zs.getD (k * 4 + 2) 0) (zs.getD (k * 4 + 3) 0)
theorem mput_length_le {m : CutM} (k : Int × Int) (v : Int) : (mput m k v).length ≤ m.length + 1 := by
  have := congrArg List.length (mkeys_mput m k v)
  rw [List.length_map] at this
  rw [this]
  split <;> simp
theorem cpHave_len (zs : List Int) : ∀ k, (cpHave zs k).1.length ≤ k
  | 0 => Nat.le_refl _
  | k + 1 => by
    have ih := cpHave_len zs k
    have hl := fun (v1 v2 v3 : Int) => mput_length_le (m := (cpHave zs k).1) (v1, v2) v3
    unfold cpHave cpNext
    (repeat' split) <;> first | (simp only; omega) | (have := hl (zs.getD (k * 4 + 1) 0) (zs.getD (k * 4 + 2) 0) (zs.getD (k * 4 + 3) 0); simp only; omega)
theorem cpHave_keys (zs : List Int) : ∀ k, KeysC (cpHave zs k).1 ∧ ((cpHave zs k).1.map (·.1)).Nodup
  | 0 => ⟨(fun x hx => by simp [cpHave] at hx), List.nodup_nil⟩
  | k + 1 => by
    obtain ⟨h1, h2⟩ := cpHave_keys zs k
    unfold cpHave cpNext
    by_cases e : zs.getD (k * 4) 0 = 1
    · rw [if_pos e]
      cases hv : stepOK (zs.getD (k * 4 + 1) 0) (zs.getD (k * 4 + 2) 0) (zs.getD (k * 4 + 3) 0) with
      | true =>
        rw [if_pos rfl]
        refine ⟨fun x hx => ?_, mnodup_mput h2 _ _⟩
        rcases mem_mput hx with rfl | hx
        · have := stepOK_iff.1 hv
          simp only; omega
        · exact h1 x hx
      | false =>
        rw [if_neg (by simp)]
        exact ⟨h1, h2⟩
    · rw [if_neg e]
      exact ⟨h1, h2⟩
theorem mem_keys_iff {m : CutM} (k : Int × Int) : k ∈ m.map (·.1) ↔ (mget m k).isSome = true := by
  constructor
  · intro h
    cases hg : mget m k with
    | none =>
      rw [mget_none] at hg
      obtain ⟨x, hx, hk⟩ := List.mem_map.1 h
      exact absurd hk (hg x hx)
    | some v => rfl
  · intro h
    cases hg : mget m k with
    | none => rw [hg] at h; cases h
    | some v => exact List.mem_map.2 ⟨_, mget_mem hg, rfl⟩
end Go.Proofs.YtehacchacgfjlaaDoor
