/- slices.Sorted(maps.Keys(m)) of a disk's map: its sectors' numbers, sorted, as a new slice; by the shelf's contracts laid at this seat (<Name>Keys, <Name>KeysB). -/
import Derived.Test.YtehacchacgfjlaaDoorDisk9
import Derived.Test.YtehacchacgfjlaaDoorKeysB
import Derived.Test.YtehacchacgfjlaaDoorOwn
namespace Go.Proofs.YtehacchacgfjlaaDoor
open Go.Maps Go.Sort Go.Shelf
open Go Go.RowKit
set_option linter.unusedSimpArgs false
set_option linter.unusedVariables false

theorem sortsAB (m : Nat) : AnyZI.SortsIn Tryd.prog Tryd.sortedA_ren Fence.wide m :=
  ⟨fun blk off cap ss W hH hblk hsz => callsIn_wide.2 (AnyM.slices_Sort_int Tryd.sortA blk off cap ss W hH hblk hsz),
   fun p cap W => callsIn_wide.2 (AnyM.slices_Sort_int_none Tryd.sortA p cap W)⟩

theorem keys_callsB (mb : Option Nat) (w : World) : Calls Tryd.prog 69 #[.map mb] w fun e w' =>
    e = .returned (.func (.func 106) #[] #[.pointer (some ⟨w.heap.size, 0, none⟩)]) ∧ w' = w.alloc (.cells #[.map mb] 119) :=
  (callsIn_wide (n := 5)).1 (AnyZI.keys_in Tryd.keysB Fence.wide 5 trivial rfl mb w)

/-- How an element reads for the keys' sake: as nothing. -/
def dumRB (_ : Value) : Option (DataW Unit × List MemPlace) := some (.nil, [])
def keyNumB : Value → Int
  | .int _ n => n
  | _ => 0
theorem owns_ofB {w : World} {b : Nat} {m : SecL} (h : MapAt Tryd.prog 3 i64V secV w b m) (hl : m.length ≤ 10000) :
    ∃ D0 : DataW Unit, w.ownsMap Tryd.prog 3 dumRB b m.length D0 ∧ (intKeys D0).Perm (m.map (·.1)) ∧ Maps.size D0 = m.length := by
  obtain ⟨es, clk, hb, R⟩ := h
  have hsz := R.size
  have hkey : ∀ x ∈ es.toList, ∃ a : Int, x.key = .int .i64 a ∧ keyOf Tryd.prog 3 x.key = some (.int .i64 a) := by
    intro x hx
    obtain ⟨l, hk⟩ := R.ekeys x hx
    obtain ⟨a, h1, h2, _⟩ := Maps.keyOf_i64 Tryd.underlying3 hk
    exact ⟨a, h1, by rw [hk, h2]⟩
  have hrd : ∀ x ∈ es.toList, WideElems.rd Tryd.prog 3 dumRB x = some (.int .i64 (keyNumB x.key), .nil) := by
    intro x hx
    obtain ⟨a, h1, h2⟩ := hkey x hx
    unfold WideElems.rd
    rw [h2, h1]
    rfl
  refine ⟨.map ((es.toList.map (WideElems.rg Tryd.prog 3 dumRB)).foldr DataW.insert []), ⟨es, clk, hb, ⟨by unfold maxLen; omega, R.stamped, fun x hx => ⟨_, hrd x hx⟩⟩, by omega, rfl⟩, ?_, ?_⟩
  · show ((((es.toList.map (WideElems.rg Tryd.prog 3 dumRB)).foldr DataW.insert []).map fun p => Go.intOf p.1)).Perm _
    have e1 : (es.toList.map (WideElems.rg Tryd.prog 3 dumRB)).map (fun p => Go.intOf p.1) = m.map (·.1) := by
      rw [List.map_map]
      have e2 : es.toList.map ((fun p : Lit × DataW Unit => Go.intOf p.1) ∘ WideElems.rg Tryd.prog 3 dumRB) = es.toList.map (fun e => keyNumB e.key) := List.map_congr_left fun x hx => by
        simp only [Function.comp_apply, WideElems.rg, hrd x hx, Option.getD_some, Go.intOf]
      rw [e2]
      have := congrArg (List.map fun p : Value × Value => keyNumB p.1) R.pairs
      rw [List.map_map, List.map_map] at this
      exact this
    rw [← e1]
    exact (WideShapes.sorted_perm _).map _
  · show ((es.toList.map (WideElems.rg Tryd.prog 3 dumRB)).foldr DataW.insert []).length = _
    rw [length_sorted, List.length_map, ← hsz, Array.length_toList]

set_option maxHeartbeats 1000000 in
/-- At a map that is not nil. -/
theorem sorted_callsB {w : World} {b : Nat} {m : SecL} (h : MapAt Tryd.prog 3 i64V secV w b m) (hl : m.length ≤ 10000) :
    Calls Tryd.prog 68 #[.func (.func 106) #[] #[.pointer (some ⟨w.heap.size, 0, none⟩)]] (w.alloc (.cells #[.map (some b)] 119)) fun e w' =>
      ∃ v, e = .returned v ∧ OwnI 3 w.heap.size w' v ((m.map (·.1)).mergeSort leI) ∧ Below w.heap.size w w' := by
  obtain ⟨D0, hown, hperm, hsize⟩ := owns_ofB h hl
  have hbl := hown.lt
  have hmax : Maps.size D0 ≤ maxLen := by rw [hsize]; unfold maxLen; omega
  have hbytes : Maps.size D0 * 8 ≤ 140737488355328 := by rw [hsize]; omega
  have hseq : SeqGives Fence.wide 2 Tryd.prog 106 #[.pointer (some ⟨w.heap.size, 0, none⟩)] encZ (fun ss => ss.Perm (intKeys D0)) (Maps.size D0) (w.alloc (.cells #[.map (some b)] 119)) :=
    AnyZI.keys_gives (ρ := Tryd.keysB_ren) { Tryd.keysB with } Fence.wide _ trivial rfl (by omega) w.heap.size b m.length D0 _ (by simp) (by simp) (by
      obtain ⟨es, clock, hb, Ft, hs, hD⟩ := hown
      exact ⟨es, clock, (Below.heap_alloc _ _ b hbl).trans hb, Ft, hs, hD⟩)
  have cS := AnyZI.sorted_in Tryd.sortedA Fence.wide 5 trivial trivial trivial trivial rfl (by omega) (sortsAB _) (enters_of Tryd.func105 (by kernel_rfl) rfl) 106 #[.pointer (some ⟨w.heap.size, 0, none⟩)] trivial (enters_of Tryd.func106 (by kernel_rfl) rfl) _ _ hmax hbytes _ hseq
  change CallsIn _ _ Tryd.prog 68 _ _ _ at cS
  refine ((callsIn_wide (n := 5)).1 cS).mono ?_
  rintro e w' ⟨v, ss, rfl, hS, hrow, hnil, hb⟩
  have hms : (m.map (·.1)).mergeSort leI = ss.mergeSort leI := mergeSort_of_perm_i (hperm.symm.trans hS.symm)
  refine ⟨v, rfl, ?_, ((Below.refl _ w).alloc (Nat.le_refl _) _).trans (hb.mono (by simp))⟩
  have hrow' := ownsRow_base_a hrow (show w.heap.size ≤ _ by simp)
  unfold OwnI
  rw [hms, List.length_mergeSort]
  exact hrow'

set_option maxHeartbeats 1000000 in
/-- At the nil map. -/
theorem sorted_nilB (w : World) :
    Calls Tryd.prog 68 #[.func (.func 106) #[] #[.pointer (some ⟨w.heap.size, 0, none⟩)]] (w.alloc (.cells #[.map none] 119)) fun e w' =>
      e = .returned (.slice none 0 0) ∧ Below w.heap.size w w' := by
  have hseq : SeqGives Fence.wide 2 Tryd.prog 106 #[.pointer (some ⟨w.heap.size, 0, none⟩)] encZ (fun ss : List Int => ss = []) 0 (w.alloc (.cells #[.map none] 119)) :=
    AnyZI.keys_gives_nil (ρ := Tryd.keysB_ren) { Tryd.keysB with } Fence.wide _ trivial rfl w.heap.size _ (by simp) (by simp)
  have cS := AnyZI.sorted_in Tryd.sortedA Fence.wide 5 trivial trivial trivial trivial rfl (by omega) (sortsAB _) (enters_of Tryd.func105 (by kernel_rfl) rfl) 106 #[.pointer (some ⟨w.heap.size, 0, none⟩)] trivial (enters_of Tryd.func106 (by kernel_rfl) rfl) _ _ (by unfold maxLen; omega) (by omega) _ hseq
  change CallsIn _ _ Tryd.prog 68 _ _ _ at cS
  refine ((callsIn_wide (n := 5)).1 cS).mono ?_
  rintro e w' ⟨v, ss, rfl, rfl, hrow, hnil, hb⟩
  obtain rfl : v = .slice none 0 0 := hnil.2 rfl
  exact ⟨rfl, ((Below.refl _ w).alloc (Nat.le_refl _) _).trans (hb.mono (by simp))⟩

end Go.Proofs.YtehacchacgfjlaaDoor
