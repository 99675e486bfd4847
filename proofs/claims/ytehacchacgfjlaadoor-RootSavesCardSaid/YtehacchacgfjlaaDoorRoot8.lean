/- The list that goes with a number (RootSaves' literal). -/
import Derived.Test.YtehacchacgfjlaaDoorSavesLaw
import Derived.Test.YtehacchacgfjlaaDoorRoot7
import Derived.Test.YtehacchacgfjlaaDoorNum
namespace Go.Proofs.YtehacchacgfjlaaDoor
open Go.Maps
open Go Go.RowKit
set_option linter.unusedSimpArgs false
set_option linter.unusedVariables false

theorem IsRow.list9 {w : World} {a : Option Addr} {len cap : Nat} {zs : List Int} (h : IsRow .i64 w a len cap zs) :
    ∃ qs, RdK .i64 w (.slice a len cap) qs ∧ qs.length = len := by
  refine ⟨zs.take len, h.rdK, ?_⟩
  rcases h with ⟨_, h0, _⟩ | ⟨x, _, h1, _, h3, _⟩
  · rw [h0]; rfl
  · rw [List.length_take]; omega
theorem IsRow.picks9 {w : World} {a : Option Addr} {len cap : Nat} {zs : List Int} (h : IsRow .i64 w a len cap zs) :
    ∃ qs, RdK .i64 w (.slice a len cap) qs ∧ qs.length = len ∧ ∀ q ∈ qs, -9223372036854775808 ≤ q ∧ q ≤ 9223372036854775807 := by
  refine ⟨zs.take len, h.rdK, ?_, fun z hz => ?_⟩
  · rcases h with ⟨_, h0, _⟩ | ⟨x, _, h1, _, h3, _⟩
    · rw [h0]; rfl
    · rw [List.length_take]; omega
  · rcases h with ⟨_, h0, _⟩ | ⟨x, _, h1, _, h3, _, h5⟩
    · rw [h0] at hz; cases hz
    · exact bounds_i64 (h5 z (List.mem_of_mem_take hz))
theorem rdK_two (w : World) (x y : Int) (E : TypeId) : RdK .i64 (w.alloc (.cells #[.int .i64 x, .int .i64 y] E)) (.slice (some ⟨w.heap.size, 0, none⟩) 2 2) [x, y] := by
  refine .inr ⟨w.heap.size, 0, 2, rfl, Nat.le_refl _, by unfold maxLen; omega, by simp, fun i hi => ?_⟩
  have : i < 2 := hi
  rw [cell_new w _ _ _]
  match i, this with
  | 0, _ => rfl
  | 1, _ => rfl
theorem rdK_three (w : World) (x y z : Int) (E : TypeId) : RdK .i64 (w.alloc (.cells #[.int .i64 x, .int .i64 y, .int .i64 z] E)) (.slice (some ⟨w.heap.size, 0, none⟩) 3 3) [x, y, z] := by
  refine .inr ⟨w.heap.size, 0, 3, rfl, Nat.le_refl _, by unfold maxLen; omega, by simp, fun i hi => ?_⟩
  have : i < 3 := hi
  rw [cell_new w _ _ _]
  match i, this with
  | 0, _ => rfl
  | 1, _ => rfl
  | 2, _ => rfl
def listN (l : List Int) (k : Nat) : List Int := if k < l.length then [l.getD k 0 % 8000, (k : Int)] else [(k : Int), 7, 8]
theorem listN_ok (l : List Int) (k : Nat) (h1 : 1 ≤ k) (h2 : k ≤ 30) : rootOk (k : Int) (listN l k) := by
  unfold listN
  split
  · have h3 := Int.emod_nonneg (l.getD k 0) (show (8000 : Int) ≠ 0 by decide)
    have h4 := Int.emod_lt_of_pos (l.getD k 0) (show (0 : Int) < 8000 by decide)
    refine ⟨⟨by omega, by omega⟩, ?_, by simp⟩
    intro z hz
    simp only [List.mem_cons, List.not_mem_nil, or_false] at hz
    rcases hz with rfl | rfl <;> omega
  · refine ⟨⟨by omega, by omega⟩, ?_, by simp⟩
    intro z hz
    simp only [List.mem_cons, List.not_mem_nil, or_false] at hz
    rcases hz with rfl | rfl | rfl <;> omega
theorem listN_len (l : List Int) (k : Nat) : (listN l k).length ≤ 3 := by
  unfold listN; split <;> simp
theorem list_calls {w : World} {b : Nat} {v : Value} {l : List Int} (hc : w.cell? ⟨b, 0, none⟩ = some v) (hv : RdK .i64 w v l) (k : Nat) (hk : k ≤ 30) (hb : b < w.heap.size) :
    Calls Tryd.prog 38 #[.int .i64 (k : Int), .pointer (some ⟨b, 0, none⟩)] w fun r w' => ∃ u, r = .returned u ∧ RdK .i64 w' u (listN l k) ∧ Below w.heap.size w w' := by
  obtain ⟨a, cap, rfl, hcap, hmx⟩ := hv.len
  unfold maxLen at hmx
  have HV := Lib.hid hv
  clear hv
  by_cases hlt : k < l.length
  · rcases HV.out with ⟨h0, _⟩ | ⟨g, off, c, hvv, _, _, hg, hcell⟩
    · rw [h0] at hlt; cases hlt
    · simp only [Value.slice.injEq] at hvv
      obtain ⟨rfl, -, rfl⟩ := hvv
      obtain ⟨x, hx⟩ : ∃ x, l.getD k 0 = x := ⟨_, rfl⟩
      have hcx : w.cell? ⟨g, off + k, none⟩ = some (.int .i64 x) := by rw [← hx]; exact hcell k hlt
      have HL : Hid (listN l k = [x % 8000, (k : Int)]) := by unfold Hid listN; rw [if_pos hlt, hx]
      clear hcell hx
      go_enter Tryd.func38, Tryd.ntmps38
      go_wp2_with fail
      refine (number_calls _ _ (by decide) (by decide) _).mono ?_
      rintro r w1 ⟨rfl, rfl⟩
      go_wp2_with fail
      go_ret
      refine ⟨_, rfl, ?_, by (repeat (first | exact Below.refl _ _ | assumption | refine Below.drew ?_ | refine below_many ?_ _ | refine Below.alloc ?_ (by first | (simp; done) | (simp; omega) | omega) _ | refine Below.setCell ?_ (by first | (simp; done) | (simp; omega) | omega) _))⟩
      rw [HL.out]
      exact rdK_two _ _ _ _
  · have HL : Hid (listN l k = [(k : Int), 7, 8]) := by unfold Hid listN; rw [if_neg hlt]
    go_enter Tryd.func38, Tryd.ntmps38
    go_wp2_with fail
    go_ret
    refine ⟨_, rfl, ?_, by (repeat (first | exact Below.refl _ _ | assumption | refine Below.drew ?_ | refine below_many ?_ _ | refine Below.alloc ?_ (by first | (simp; done) | (simp; omega) | omega) _ | refine Below.setCell ?_ (by first | (simp; done) | (simp; omega) | omega) _))⟩
    rw [HL.out]
    exact rdK_three _ _ _ _ _
theorem list_callsE {w : World} {b : Nat} {v : Value} {l : List Int} (hc : w.cell? ⟨b, 0, none⟩ = some v) (hv : RdK .i64 w v l) (k : Nat) (hk : k ≤ 30) (hb : b < w.heap.size) (e : Int) (he : e = (k : Int)) :
    Calls Tryd.prog 38 #[.int .i64 e, .pointer (some ⟨b, 0, none⟩)] w fun r w' => ∃ u, r = .returned u ∧ RdK .i64 w' u (listN l k) ∧ Below w.heap.size w w' := by
  subst he; exact list_calls hc hv k hk hb
theorem secE_mput (e : Int) (x : List Int) : rdS zeroS (mput [] (secE e) x) = rdS zeroS (mput [] (secE e) x) := rfl
theorem rdS_nil' (f : Int → List Int) : rdS f [] = f := funext fun i => rdS_nil f i
/-- A save that the power falls on, and what a fall leaves of it. -/
theorem save_falls {lo : Nat} {w : World} {d fb pb n : Nat} {l : List Int} {calls fuse : Int} {ks : List Nat} {B : Nat} {p : Nat → Addr} (hE : Errs ks B p w) (h8 : 8 ∈ ks) (hB : B ≤ lo) (h : DA lo w d fb pb 6 (savF (listN l) n) [] calls fuse false) (hf : fuse = 1 ∨ fuse = 2) (hn : n ≤ 20) (hcb : 0 ≤ calls ∧ calls ≤ 1000) (hlo : lo ≤ w.heap.size) {v : Value} (hv : RdK .i64 w v (listN l (n + 1))) (qs : List Int) :
    Calls Tryd.prog 36 #[.pointer (some ⟨d, 0, none⟩), rootV ((n + 1 : Nat) : Int) v] w fun r w' => r = .returned (ev p 8) ∧ ∃ (pb' : Nat) (P : PenL) (calls' fuse' : Int), DA lo w' d fb pb' 6 (savF (listN l) n) P calls' fuse' true ∧ 0 ≤ calls' ∧ calls' ≤ calls + 1 ∧ (∃ R, Stage1 (listN l) n qs (crashTo (rdS zeroS P) (keysA P) qs (savF (listN l) n)) R) ∧ (∀ i, isBytes (crashTo (rdS zeroS P) (keysA P) qs (savF (listN l) n) i)) ∧ Keep (fun x => x = d ∨ x = fb ∨ x = pb) w w' := by
  have hok := listN_ok l (n + 1) (by omega) (by omega)
  have hL : ∀ k : Nat, 1 ≤ k → k ≤ 30 → rootOk (k : Int) (listN l k) := fun k h1 h2 => listN_ok l k h1 h2
  have hby : ∀ i, isBytes (savF (listN l) n i) := savF_bytes (fun k => by have := listN_len l k; omega) n
  rcases hf with rfl | rfl
  · refine (save_gone1 hE h8 hB h (by decide) rfl hv hok).mono ?_
    rintro r w1 ⟨rfl, hD, hk⟩
    refine ⟨rfl, _, _, _, _, hD, by omega, by omega, ⟨baseR (listN l) n, ?_⟩, ?_, hk.mono fun x _ hx => .inl hx⟩
    · rw [show keysA ([] : PenL) = [] by simp [keysA], crashTo_none]
      exact stage1_none hL n hn qs
    · rw [show keysA ([] : PenL) = [] by simp [keysA], crashTo_none]
      exact hby
  · refine (save_gone2 hE h8 hB h (by decide) (by decide) (by decide) rfl rfl (by omega) hlo hv hok).mono ?_
    rintro r w1 ⟨rfl, hD, hk⟩
    refine ⟨rfl, _, _, _, _, hD, by omega, by omega, ?_, ?_, hk⟩
    · have h := stage1_torn hL n hn qs
      rw [← show ((n + 1 : Nat) : Int) = (n : Int) + 1 by omega] at h
      exact h
    · exact tornF_bytes hby (rootL_bytes _ _ (by have := listN_len l (n + 1); omega))
theorem stage_cases {l : List Int} {n : Nat} {qs : List Int} {f : Int → List Int} {R : Int × List Int} (h : Stage1 (listN l) n qs f R) : (∃ j : Nat, R = ((j : Int), listN l j) ∧ 1 ≤ j ∧ (j = n + 1 ∨ j = n)) ∨ (R = (0, []) ∧ n = 0) := by
  obtain ⟨_, _, ⟨hr, _⟩ | ⟨hr, _⟩⟩ := h
  · exact .inl ⟨n + 1, by rw [hr]; simp, by omega, .inl rfl⟩
  · unfold baseR at hr
    by_cases h0 : n = 0
    · rw [if_pos h0] at hr; exact .inr ⟨hr, h0⟩
    · rw [if_neg h0] at hr; exact .inl ⟨n, hr, by omega, .inr rfl⟩
/-- A root in the struct at block rb, whose list lies from lo2 on. -/
structure RootAt (lo2 : Nat) (w : World) (rb : Nat) (e : Int) (v : Value) (xs : List Int) : Prop where
  c0 : w.cell? ⟨rb, 0, none⟩ = some (.int .i64 e)
  c1 : w.cell? ⟨rb, 1, none⟩ = some v
  rd : RdK .i64 w v xs
  own : ∀ g, v.ownBlock = some g → lo2 ≤ g
  lo : lo2 ≤ rb
  lt : rb < w.heap.size
theorem RootAt.below {lo2 : Nat} {w w' : World} {rb : Nat} {e : Int} {v : Value} {xs : List Int} (h : RootAt lo2 w rb e v xs) (k : Below w.heap.size w w') : RootAt lo2 w' rb e v xs :=
  ⟨(k.cell (p := ⟨rb, 0, none⟩) h.lt).trans h.c0, (k.cell (p := ⟨rb, 1, none⟩) h.lt).trans h.c1, h.rd.below k, h.own, h.lo, Nat.lt_of_lt_of_le h.lt k.size⟩
theorem RootAt.keep {lo2 : Nat} {w w' : World} {rb : Nat} {e : Int} {v : Value} {xs : List Int} {S : Nat → Prop} (h : RootAt lo2 w rb e v xs) (k : Keep S w w') (hs : ∀ x, S x → x < lo2) : RootAt lo2 w' rb e v xs := by
  have hn : ¬ S rb := fun q => by have := hs rb q; have := h.lo; omega
  exact ⟨(k.cell (x := ⟨rb, 0, none⟩) h.lt hn).trans h.c0, (k.cell (x := ⟨rb, 1, none⟩) h.lt hn).trans h.c1, h.rd.keep k (fun g hg q => by have := hs g q; have := h.own g hg; omega), h.own, h.lo, Nat.lt_of_lt_of_le h.lt k.size⟩
theorem RootAt.new {lo2 : Nat} {w : World} {v : Value} {xs : List Int} {t : TypeId} (e : Int) (h : RdK .i64 w v xs) (ho : ∀ g, v.ownBlock = some g → lo2 ≤ g) (hlo : lo2 ≤ w.heap.size) : RootAt lo2 (w.alloc (.cells #[.int .i64 e, v] t)) w.heap.size e v xs :=
  ⟨cell_new w _ _ 0, cell_new w _ _ 1, h.below ((Below.refl _ _).alloc (Nat.le_refl _) _), ho, hlo, by simp⟩
end Go.Proofs.YtehacchacgfjlaaDoor
