/- Package stress (amount, scene, Top, Set, Get, Two, Cover) and fix.Add: what each call returns and what it leaves. -/
import Derived.Test.YtehacchacgfjlaaDoorMap2
import Derived.Test.YtehacchacgfjlaaDoorErr
import Derived.StillTailTactics
import Derived.Deep.RegionHeld3
import Derived.Laws.AppendOwn
import Derived.Laws.OwnMore
namespace Go.Proofs.YtehacchacgfjlaaDoor
open Go.Maps
open Go Go.RowKit
set_option linter.unusedSimpArgs false
set_option linter.unusedVariables false

def isAmt (n : Int) : Bool := decide (0 ≤ n ∧ n ≤ 1000000000000000)
def isScene (n : Int) : Bool := decide (1 ≤ n ∧ n ≤ 16)

theorem amount_calls (n : Int) (w : World) : Calls Tryd.prog 94 #[.int .i64 n] w fun e w' => e = .returned (.bool (isAmt n)) ∧ w = w' := by
  by_cases h : 0 ≤ n
  · have h' : decide (0 ≤ n) = true := decide_eq_true h
    rw [show isAmt n = decide (n ≤ 1000000000000000) from decide_eq_decide.2 (by omega)]
    go_enter Tryd.func94, Tryd.ntmps94
    go_wp2
    go_ret
    exact ⟨rfl, rfl⟩
  · have h' : decide (0 ≤ n) = false := decide_eq_false h
    rw [show isAmt n = false from decide_eq_false (by omega)]
    go_enter Tryd.func94, Tryd.ntmps94
    go_wp2
    go_ret
    exact ⟨rfl, rfl⟩

theorem scene_calls (n : Int) (w : World) : Calls Tryd.prog 93 #[.int .i64 n] w fun e w' => e = .returned (.bool (isScene n)) ∧ w = w' := by
  by_cases h : 1 ≤ n
  · have h' : decide (1 ≤ n) = true := decide_eq_true h
    rw [show isScene n = decide (n ≤ 16) from decide_eq_decide.2 (by omega)]
    go_enter Tryd.func93, Tryd.ntmps93
    go_wp2
    go_ret
    exact ⟨rfl, rfl⟩
  · have h' : decide (1 ≤ n) = false := decide_eq_false h
    rw [show isScene n = false from decide_eq_false (by omega)]
    go_enter Tryd.func93, Tryd.ntmps93
    go_wp2
    go_ret
    exact ⟨rfl, rfl⟩

/-- fix.Add where both are from 0 on and the sum is none too great. -/
theorem add_calls (a b : Int) (h1 : 0 ≤ a) (h2 : a ≤ 4000000000000000000) (h3 : 0 ≤ b) (h4 : b ≤ 4000000000000000000) (w : World) :
    Calls Tryd.prog 101 #[.int .i64 a, .int .i64 b] w fun e w' => e = .returned (.tuple #[.int .i64 (a + b), .bool true]) ∧ w = w' := by
  by_cases hb : b = 0
  · subst hb
    go_enter Tryd.func101, Tryd.ntmps101
    go_wp2
    go_ret2
    exact ⟨by simp, rfl⟩
  · have k1 : decide (a < a + b) = true := decide_eq_true (by omega)
    have k2 : decide (0 < b) = true := decide_eq_true (by omega)
    go_enter Tryd.func101, Tryd.ntmps101
    go_wp2
    go_ret2
    exact ⟨rfl, rfl⟩

/-- A slice of int64 numbers, as a value: what can be read of it. -/
def SlI (w : World) (v : Value) (xs : List Int) : Prop :=
  ∃ a cap, v = .slice a xs.length cap ∧ xs.length ≤ cap ∧ cap ≤ maxLen ∧ (xs = [] ∨ ∃ b off, a = some ⟨b, off, none⟩ ∧ b < w.heap.size ∧ ∀ i, i < xs.length → w.cell? ⟨b, off + i, none⟩ = some (.int .i64 (xs.getD i 0)))
theorem SlI.below {w w' : World} {v : Value} {xs : List Int} (h : SlI w v xs) (k : Below w.heap.size w w') : SlI w' v xs := by
  obtain ⟨a, cap, h1, h2, h2', h3 | ⟨b, off, h3, h4, h5⟩⟩ := h
  · exact ⟨a, cap, h1, h2, h2', .inl h3⟩
  · exact ⟨a, cap, h1, h2, h2', .inr ⟨b, off, h3, Nat.lt_of_lt_of_le h4 k.size, fun i hi => (k.cell (p := ⟨b, off + i, none⟩) h4).trans (h5 i hi)⟩⟩

def topStep (s : Int × Int) (n : Int) : Int × Int := if s.1 < n then (n, s.1) else if s.2 < n then (s.1, n) else s
def topGo (xs : List Int) : Int × Int := xs.foldl topStep (0, 0)
/-- What Top answers: the sum, or the number of the error. -/
def topR (xs : List Int) : Except Nat Int :=
  if xs.all isAmt then (if (topGo xs).1 + (topGo xs).2 ≤ 1000000000000000 then .ok ((topGo xs).1 + (topGo xs).2) else .error 3) else .error 2
/-- A number and an error, as the two results. -/
def resV (p : Nat → Addr) : Except Nat Int → Value
  | .ok n => .tuple #[.int .i64 n, .nilIface]
  | .error k => .tuple #[.int .i64 0, ev p k]

theorem topStep_bd {s : Int × Int} {n : Int} (hn : isAmt n = true) (h : 0 ≤ s.2 ∧ s.2 ≤ s.1 ∧ s.1 ≤ 1000000000000000) : 0 ≤ (topStep s n).2 ∧ (topStep s n).2 ≤ (topStep s n).1 ∧ (topStep s n).1 ≤ 1000000000000000 := by
  simp only [isAmt, decide_eq_true_eq] at hn
  unfold topStep
  (repeat' split) <;> (try simp only) <;> omega
theorem topGo_snoc (xs : List Int) (n : Int) : topGo (xs ++ [n]) = topStep (topGo xs) n := by simp [topGo]
theorem topGo_bd : ∀ (xs : List Int), xs.all isAmt = true → 0 ≤ (topGo xs).2 ∧ (topGo xs).2 ≤ (topGo xs).1 ∧ (topGo xs).1 ≤ 1000000000000000 := by
  suffices ∀ (xs : List Int) (s : Int × Int), xs.all isAmt = true → 0 ≤ s.2 ∧ s.2 ≤ s.1 ∧ s.1 ≤ 1000000000000000 → 0 ≤ (xs.foldl topStep s).2 ∧ (xs.foldl topStep s).2 ≤ (xs.foldl topStep s).1 ∧ (xs.foldl topStep s).1 ≤ 1000000000000000 from
    fun xs h => this xs (0, 0) h (by simp)
  intro xs
  induction xs with
  | nil => intro s _ h; exact h
  | cons x xs ih =>
    intro s h hs
    simp only [List.all_cons, Bool.and_eq_true] at h
    exact ih _ h.2 (topStep_bd h.1 hs)
theorem take_snoc {xs : List Int} {m : Nat} (h : m < xs.length) : xs.take (m + 1) = xs.take m ++ [xs.getD m 0] := by
  rw [List.take_succ_eq_append_getElem h]
  simp [List.getD, h]

set_option maxRecDepth 100000 in
theorem top_calls {ks : List Nat} {B : Nat} {p : Nat → Addr} {w : World} (hE : Errs ks B p w) (hk : 2 ∈ ks) (hk3 : 3 ∈ ks) {v : Value} {xs : List Int} (hv : SlI w v xs) :
    Calls Tryd.prog 59 #[v] w fun e w' => e = .returned (resV p (topR xs)) ∧ Below w.heap.size w w' := by
  obtain ⟨a, cap, rfl, hcap, hmx, hcells⟩ := hv
  unfold maxLen at hmx
  have c2 := hE.cell 2 hk
  have c3 := hE.cell 3 hk3
  simp only [gl] at c2 c3
  clear hE
  have HC : Hid (xs = [] ∨ ∃ b off, a = some ⟨b, off, none⟩ ∧ b < w.heap.size ∧ ∀ i, i < xs.length → w.cell? ⟨b, off + i, none⟩ = some (.int .i64 (xs.getD i 0))) := hcells
  clear hcells hk hk3
  go_enter Tryd.func59, Tryd.ntmps59
  go_wp2_with fail
  go_loop [12, 4, 5] (fun i f s => ∃ m : Nat, m ≤ xs.length ∧ i = .int .i64 m ∧ f = .int .i64 (topGo (xs.take m)).1 ∧ s = .int .i64 (topGo (xs.take m)).2 ∧ Hid ((xs.take m).all isAmt = true)) (fun i _ _ => xs.length - (intOf i).toNat)
  case atStart => exact ⟨0, Nat.zero_le _, rfl, rfl, rfl, rfl⟩
  case round =>
    obtain ⟨m, hm, rfl, rfl, rfl, hall⟩ := hrel
    have hbd := topGo_bd _ hall.out
    by_cases hlt : m < xs.length
    · obtain ⟨b, off, rfl, hb, hcell⟩ := HC.out.resolve_left (by intro e; rw [e] at hlt; simp at hlt)
      have hc := hcell m hlt
      have HS := Lib.hid (take_snoc hlt)
      generalize xs.getD m 0 = x at hc HS
      clear hcell
      generalize hst : topGo (xs.take m) = st at *
      have HST := Lib.hid hst
      clear hst
      obtain ⟨f, s⟩ := st
      simp only at hbd
      by_cases hx : isAmt x = true
      · have HX := Lib.hid hx
        have hxb : 0 ≤ x ∧ x ≤ 1000000000000000 := by simpa [isAmt] using hx
        clear hx
        have HA : Hid ((xs.take (m + 1)).all isAmt = true) := by
          unfold Hid; rw [HS.out, List.all_append, hall.out]; simpa using HX.out
        have HT : Hid (topGo (xs.take (m + 1)) = topStep (f, s) x) := by
          unfold Hid; rw [HS.out, topGo_snoc, HST.out]
        by_cases h1 : f < x
        · have HU : Hid (topStep (f, s) x = (x, f)) := by simp [Hid, topStep, h1]
          go_wp2_with (go_at_call 94; refine (amount_calls _ _).mono ?_; rintro e w1 ⟨rfl, rfl⟩; rw [HX.out])
          go_round
          case rel => exact ⟨m + 1, by omega, by go_num, by rw [HT.out, HU.out], by rw [HT.out, HU.out], HA⟩
          case measure => simp [intOf]; omega
        · by_cases h2 : s < x
          · have HU : Hid (topStep (f, s) x = (f, x)) := by simp [Hid, topStep, h1, h2]
            go_wp2_with (go_at_call 94; refine (amount_calls _ _).mono ?_; rintro e w1 ⟨rfl, rfl⟩; rw [HX.out])
            go_round
            case rel => exact ⟨m + 1, by omega, by go_num, by rw [HT.out, HU.out], by rw [HT.out, HU.out], HA⟩
            case measure => simp [intOf]; omega
          · have HU : Hid (topStep (f, s) x = (f, s)) := by simp [Hid, topStep, h1, h2]
            go_wp2_with (go_at_call 94; refine (amount_calls _ _).mono ?_; rintro e w1 ⟨rfl, rfl⟩; rw [HX.out])
            go_round
            case rel => exact ⟨m + 1, by omega, by go_num, by rw [HT.out, HU.out], by rw [HT.out, HU.out], HA⟩
            case measure => simp [intOf]; omega
      · have hx' : isAmt x = false := by simpa using hx
        have HX := Lib.hid hx'
        have HR : Hid (resV p (topR xs) = .tuple #[.int .i64 0, ev p 2]) := by
          unfold Hid topR
          rw [if_neg]
          · rfl
          · intro h
            have h' : (xs.take (m + 1)).all isAmt = true := by
              rw [List.all_eq_true] at h ⊢
              exact fun y hy => h y (List.mem_of_mem_take hy)
            rw [HS.out, List.all_append] at h'
            simp [HX.out] at h'
        clear hx hx'
        go_wp2_with (go_at_call 94; refine (amount_calls _ _).mono ?_; rintro e w1 ⟨rfl, rfl⟩; rw [HX.out])
        go_quiet (fail)
        go_wp2_with fail
        go_ret2
        exact ⟨by rw [HR.out]; rfl, by (repeat (first | exact Below.refl _ _ | assumption | refine Below.drew ?_ | refine below_many ?_ _ | refine Below.alloc ?_ (by first | (simp; done) | (simp; omega) | omega) _ | refine Below.setCell ?_ (by first | (simp; done) | (simp; omega) | omega) _))⟩
    · obtain rfl : m = xs.length := by omega
      have hall' := hall.out
      rw [List.take_length] at hall' hbd
      have htk := List.take_length (l := xs)
      rw [htk]
      generalize hst : topGo xs = st at *
      have HST := Lib.hid hst
      have Hall := Lib.hid hall'
      clear hst htk hall hall'
      obtain ⟨f, s⟩ := st
      simp only at hbd ⊢
      by_cases hle : f + s ≤ 1000000000000000
      · have HR : Hid (resV p (topR xs) = .tuple #[.int .i64 (f + s), .nilIface]) := by
          unfold Hid topR
          rw [if_pos Hall.out, HST.out, if_pos hle]; rfl
        go_wp2_with (go_at_call 101; refine (add_calls _ _ (by omega) (by omega) (by omega) (by omega) _).mono ?_; rintro e w1 ⟨rfl, rfl⟩)
        go_ret2
        exact ⟨by rw [HR.out]; rfl, by (repeat (first | exact Below.refl _ _ | assumption | refine Below.drew ?_ | refine below_many ?_ _ | refine Below.alloc ?_ (by first | (simp; done) | (simp; omega) | omega) _ | refine Below.setCell ?_ (by first | (simp; done) | (simp; omega) | omega) _))⟩
      · have HR : Hid (resV p (topR xs) = .tuple #[.int .i64 0, ev p 3]) := by
          unfold Hid topR
          rw [if_pos Hall.out, HST.out, if_neg hle]; rfl
        have hle' : 1000000000000000 < f + s := by omega
        clear hle
        go_wp2_with (go_at_call 101; refine (add_calls _ _ (by omega) (by omega) (by omega) (by omega) _).mono ?_; rintro e w1 ⟨rfl, rfl⟩)
        go_quiet (fail)
        go_wp2_with fail
        go_ret2
        exact ⟨by rw [HR.out]; rfl, by (repeat (first | exact Below.refl _ _ | assumption | refine Below.drew ?_ | refine below_many ?_ _ | refine Below.alloc ?_ (by first | (simp; done) | (simp; omega) | omega) _ | refine Below.setCell ?_ (by first | (simp; done) | (simp; omega) | omega) _))⟩

theorem cellKeyed : Keyed Tryd.prog 94 := Keyed.of_law (deep_law_laid (by kernel_rfl) (m := 2) (by omega) (of_decide_eq_true (by kernel_rfl)) (by kernel_rfl) (by rw [Tryd.underlying94]))
theorem cellKey (k : Int × Int) (h1 : (Lit.int .i64 k.1).wf = true) (h2 : (Lit.int .i64 k.2).wf = true) : ∃ l, keyOf Tryd.prog 94 (pairV k) = some l :=
  pairKey Tryd.underlying94 rfl rfl rfl rfl (by decide) (by decide) Tryd.underlying3 (by kernel_rfl) (by kernel_rfl) (by kernel_rfl) h1 h2 ⟨Tryd.prog.types.size - 1, by have : 0 < Tryd.prog.types.size := of_decide_eq_true (by kernel_rfl); omega⟩
/-- A table's map: cells and losses. -/
abbrev CellMap (w : World) (r : Option Nat) (m : List ((Int × Int) × Int)) : Prop := MapV Tryd.prog 94 pairV i64V w r m
theorem cell_look {w : World} {r : Option Nat} {m : List ((Int × Int) × Int)} (h : CellMap w r m) (a b : Int) (h1 : (Lit.int .i64 a).wf = true) (h2 : (Lit.int .i64 b).wf = true) :
    (Instr.lookup 95 (.map r) (.agg #[.int .i64 a, .int .i64 b]) false).run Tryd.prog w = .ok (.int .i64 ((mget m (a, b)).getD 0)) w := by
  have := h.look cellKeyed pairV_inj Tryd.underlying95 (z := .int .i64 0) (by kernel_rfl) (k := (a, b)) (cellKey _ h1 h2)
  rw [this]
  cases mget m (a, b) <;> rfl
theorem cell_len {w : World} {r : Option Nat} {m : List ((Int × Int) × Int)} (h : CellMap w r m) : (Builtin.len_ #[95] 3 #[.map r]).run Tryd.prog w = .ok (.int .i64 (m.length : Int)) w :=
  h.len Tryd.underlying95
set_option maxRecDepth 100000 in
theorem cell_store {w : World} {b : Nat} {m : List ((Int × Int) × Int)} (h : CellMap w (some b) m) (x y v : Int) (h1 : (Lit.int .i64 x).wf = true) (h2 : (Lit.int .i64 y).wf = true) :
    ∃ w', (Instr.mapUpdate 95 (.map (some b)) (.agg #[.int .i64 x, .int .i64 y]) (.int .i64 v)).run Tryd.prog w = .ok () w' ∧ CellMap w' (some b) (mput m (x, y) v) ∧ Keep (fun x => x = b) w w' ∧ w'.heap.size = w.heap.size :=
  MapV.store (kv := pairV) (vv := i64V) cellKeyed pairV_inj Tryd.underlying95 h v (cellKey (x, y) h1 h2)
set_option maxRecDepth 100000 in
theorem cell_drop {w : World} {b : Nat} {m : List ((Int × Int) × Int)} {ty : TypeId} (h : CellMap w (some b) m) (x y : Int) (h1 : (Lit.int .i64 x).wf = true) (h2 : (Lit.int .i64 y).wf = true) :
    ∃ w', (Builtin.delete_ #[95, 94] ty #[.map (some b), .agg #[.int .i64 x, .int .i64 y]]).run Tryd.prog w = .ok (.tuple #[]) w' ∧ CellMap w' (some b) (mdel m (x, y)) ∧ Keep (fun x => x = b) w w' ∧ w'.heap.size = w.heap.size :=
  MapV.drop (kv := pairV) (vv := i64V) (ty := ty) cellKeyed pairV_inj Tryd.underlying95 h (cellKey (x, y) h1 h2)

set_option maxRecDepth 100000 in
theorem tabGet_calls {w : World} {b o : Nat} {r : Option Nat} {m : List ((Int × Int) × Int)} (hc : w.cell? ⟨b, o, none⟩ = some (.map r)) (hm : CellMap w r m) (s k : Int) (h1 : (Lit.int .i64 s).wf = true) (h2 : (Lit.int .i64 k).wf = true) :
    Calls Tryd.prog 61 #[.pointer (some ⟨b, o, none⟩), pairV (s, k)] w fun e w' => e = .returned (.int .i64 ((mget m (s, k)).getD 0)) ∧ Below w.heap.size w w' := by
  have hlt : b < w.heap.size := World.block_lt_of_cell? w ⟨b, o, none⟩ hc
  have hl : ∀ n, (Instr.lookup 95 (.map r) (.agg #[.int .i64 s, .int .i64 k]) false).run Tryd.prog ((w.alloc (Obj.cells #[.int .i64 s, .int .i64 k] 94)).drewN n) = .ok (.int .i64 ((mget m (s, k)).getD 0)) ((w.alloc (Obj.cells #[.int .i64 s, .int .i64 k] 94)).drewN n) :=
    fun n => cell_look ((hm.alloc _).drewN n) s k h1 h2
  clear hm h1 h2
  generalize (mget m (s, k)).getD 0 = v at hl ⊢
  go_enter Tryd.func61, Tryd.ntmps61
  go_wp2_with fail
  go_quiet (fail)
  go_wp2_with fail
  go_ret
  exact ⟨rfl, by (repeat (first | exact Below.refl _ _ | assumption | refine Below.drew ?_ | refine below_many ?_ _ | refine Below.alloc ?_ (by first | (simp; done) | (simp; omega) | omega) _ | refine Below.setCell ?_ (by first | (simp; done) | (simp; omega) | omega) _))⟩

theorem notAmt_calls (n : Int) (w : World) : Calls Tryd.prog 100 #[.int .i64 n] w fun e w' => e = .returned (.bool (!isAmt n)) ∧ w = w' := by
  go_enter Tryd.func100, Tryd.ntmps100
  go_wp2_with (go_at_call 94; refine (amount_calls _ _).mono ?_; rintro e w1 ⟨rfl, rfl⟩)
  go_ret
  exact ⟨rfl, rfl⟩

set_option maxRecDepth 100000 in
theorem indexAmt_calls {w : World} {v : Value} {xs : List Int} (hv : SlI w v xs) :
    Calls Tryd.prog 120 #[v, .func (.func 100) #[] #[]] w fun e w' => ∃ j : Int, e = .returned (.int .i64 j) ∧ Hid (decide (0 ≤ j) = !xs.all isAmt) ∧ w = w' := by
  obtain ⟨a, cap, rfl, hcap, hmx, hcells⟩ := hv
  unfold maxLen at hmx
  have HC : Hid (xs = [] ∨ ∃ b off, a = some ⟨b, off, none⟩ ∧ b < w.heap.size ∧ ∀ i, i < xs.length → w.cell? ⟨b, off + i, none⟩ = some (.int .i64 (xs.getD i 0))) := hcells
  clear hcells
  go_enter Tryd.func120, Tryd.ntmps120
  go_wp2_with fail
  go_loop [8] (fun i => ∃ m : Nat, m ≤ xs.length ∧ i = .int .i64 m ∧ Hid ((xs.take m).all isAmt = true)) (fun i => xs.length - (intOf i).toNat)
  case atStart => exact ⟨0, Nat.zero_le _, rfl, rfl⟩
  case round =>
    obtain ⟨m, hm, rfl, hall⟩ := hrel
    by_cases hlt : m < xs.length
    · obtain ⟨b, off, rfl, hb, hcell⟩ := HC.out.resolve_left (by intro e; rw [e] at hlt; simp at hlt)
      have hc := hcell m hlt
      have HS := Lib.hid (take_snoc hlt)
      generalize xs.getD m 0 = x at hc HS
      clear hcell
      by_cases hx : isAmt x = true
      · have HX := Lib.hid hx
        clear hx
        have HA : Hid ((xs.take (m + 1)).all isAmt = true) := by
          unfold Hid; rw [HS.out, List.all_append, hall.out]; simpa using HX.out
        go_wp2_with (go_at_call 100; refine (notAmt_calls _ _).mono ?_; rintro e w1 ⟨rfl, rfl⟩; rw [HX.out, Bool.not_true])
        go_round
        case rel => exact ⟨m + 1, by omega, by go_num, HA⟩
        case measure => simp [intOf]; omega
      · have hx' : isAmt x = false := by simpa using hx
        have HX := Lib.hid hx'
        have HN : Hid (xs.all isAmt = false) := by
          unfold Hid
          rw [← Bool.not_eq_true]
          intro h
          have h' : (xs.take (m + 1)).all isAmt = true := by
            rw [List.all_eq_true] at h ⊢
            exact fun y hy => h y (List.mem_of_mem_take hy)
          rw [HS.out, List.all_append] at h'
          simp [HX.out] at h'
        clear hx hx'
        go_wp2_with (go_at_call 100; refine (notAmt_calls _ _).mono ?_; rintro e w1 ⟨rfl, rfl⟩; rw [HX.out, Bool.not_false])
        go_ret
        exact ⟨(m : Int), rfl, by unfold Hid; rw [HN.out]; simp, rfl⟩
    · obtain rfl : m = xs.length := by omega
      have hall' := hall.out
      rw [List.take_length] at hall'
      have Hall := Lib.hid hall'
      clear hall'
      go_wp2_with fail
      go_ret
      exact ⟨-1, rfl, by unfold Hid; rw [Hall.out]; rfl, rfl⟩

theorem containsAmt_calls {w : World} {v : Value} {xs : List Int} (hv : SlI w v xs) :
    Calls Tryd.prog 99 #[v, .func (.func 100) #[] #[]] w fun e w' => e = .returned (.bool (!xs.all isAmt)) ∧ w = w' := by
  go_enter Tryd.func99, Tryd.ntmps99
  go_wp2_with fail
  refine (indexAmt_calls hv).mono ?_
  rintro e w1 ⟨j, rfl, hj, rfl⟩
  go_wp2_with fail
  go_ret
  exact ⟨by rw [← hj.out]; rfl, rfl⟩

end Go.Proofs.YtehacchacgfjlaaDoor
