/- The walk of pledgelaw25.OpSays: it returns true, and writes nothing that was there. (Written by gen_opsays.py.) PLACED -/
import Derived.Test.YtchbkceconlbkaaGreatDoorSameOp
import Derived.Test.YtchbkceconlbkaaGreatDoorOpRead
import Derived.Test.YtchbkceconlbkaaGreatDoorOpParse
import Derived.Test.YtchbkceconlbkaaGreatDoorOpFirst
import Derived.Test.YtchbkceconlbkaaGreatDoorRefParse
import Derived.Test.YtchbkceconlbkaaGreatDoorRefRd26B
import Derived.Test.YtchbkceconlbkaaGreatDoorRefBytes
import Derived.Test.YtchbkceconlbkaaGreatDoorRefText
import Derived.Test.YtchbkceconlbkaaGreatDoorByt
import Derived.Test.YtchbkceconlbkaaGreatDoorWirePut
import Derived.SliceStrings
import Derived.OpenShut
import Derived.Deep.DeepCutAuto
import Derived.Deep.RegionHeld3
namespace Go.Proofs.YtchbkceconlbkaaGreatDoor
open Go Go.RowKit
set_option linter.unusedSimpArgs false
set_option linter.unusedVariables false

section
open Go.WideShapes Go.ChangeShapes
/-- The address, where there is one, is a plain one of a block that is there. -/
def Placed (w : World) (a : Option Addr) : Prop := ∀ x, a = some x → x.block < w.heap.size ∧ x.spot = none
theorem placed_of {P : Program} {w : World} {r : Reach} {base : Nat} {t e : TypeId} {a : Option Addr} {len cap : Nat} (ht : P.underlying t = some (.slice e)) (h : Value.okWide P w r base t (.slice a len cap)) : Placed w a := by
  rintro x rfl
  simp only [Value.okWide, ht, Cell.okWide, Cell.ok] at h
  obtain ⟨_, _, _, hs, row, cells, hsh, _⟩ := h
  refine ⟨?_, hs⟩
  by_cases hb : x.block < w.heap.size
  · exact hb
  · simp [World.shape?, Array.getElem?_eq_none (Nat.le_of_not_lt hb)] at hsh
/-- A slice of strings that came in. -/
def IsStrs (w : World) (a : Option Addr) (len cap : Nat) (ss : List ByteArray) : Prop :=
  (a = none ∧ len = 0 ∧ cap = 0 ∧ ss = []) ∨
  ∃ x, a = some x ∧ len ≤ cap ∧ cap ≤ maxLen ∧ ss.length = cap ∧ ∀ i, i < ss.length → w.cell? (x.add i) = some (.string (ss.getD i ⟨#[]⟩))
theorem isStrs_of {H : Type} {enc : TypeId × Value → H} {P : Program} {w : World} {held : Bool} {t e : TypeId} {fuel : Nat} {a : Option Addr} {len cap : Nat} {x : DataW H × List MemPlace} (ht : P.underlying t = some (.slice e)) (he : P.underlying e = some .string) (hc : P.cellsOf e = 1)
    (h : DataW.trod enc P w 0 (fun _ => true) held fuel t [.slice a len cap] = some x) : ∃ ss, IsStrs w a len cap ss := by
  rcases open_strings ht he hc h with ⟨hcs, _⟩ | ⟨y, l, c, ss, hcs, _, hl, hm, hz, _, hcell, _⟩
  · simp at hcs
    obtain ⟨rfl, rfl, rfl⟩ := hcs
    exact ⟨[], .inl ⟨rfl, rfl, rfl, rfl⟩⟩
  · simp at hcs
    obtain ⟨rfl, rfl, rfl⟩ := hcs
    exact ⟨ss, .inr ⟨_, rfl, hl, hm, by simpa using hz, hcell⟩⟩
theorem IsStrs.len {w : World} {a : Option Addr} {len cap : Nat} {ss : List ByteArray} (h : IsStrs w a len cap ss) : (ss.take len).length = len := by
  rcases h with ⟨_, rfl, _, rfl⟩ | ⟨x, _, h1, _, h3, _⟩
  · rfl
  · rw [List.length_take]; omega
theorem IsRow.bytes {w : World} {a : Option Addr} {len cap : Nat} {zs : List Int} (h : IsRow .u8 w a len cap zs) (hp : Placed w a) :
    ∃ l : List UInt8, bytesI l = zs.take len ∧ l.length = len ∧ RdB w (.slice a len cap) (bytesI l) := by
  have hlen : len ≤ zs.length := by
    rcases h with ⟨_, rfl, _, rfl⟩ | ⟨x, _, h1, _, h3, _⟩
    · exact Nat.le_refl _
    · omega
  have hwf : ∀ n ∈ zs, 0 ≤ n ∧ n ≤ 255 := by
    rcases h with ⟨_, _, _, rfl⟩ | ⟨x, _, _, _, _, _, h5⟩
    · intro n hn; cases hn
    · intro n hn
      have := h5 n hn
      simp only [Lit.wf, Bool.and_eq_true, decide_eq_true_eq] at this
      exact this
  have hbl : bytesI ((zs.take len).map fun z => UInt8.ofNat z.toNat) = zs.take len := by
    unfold bytesI
    rw [List.map_map]
    conv => rhs; rw [← List.map_id (zs.take len)]
    refine List.map_congr_left fun z hz => ?_
    have := hwf z (List.mem_of_mem_take hz)
    show ((UInt8.ofNat z.toNat).toNat : Int) = z
    rw [UInt8.toNat_ofNat']
    omega
  refine ⟨_, hbl, by rw [List.length_map, List.length_take]; omega, ?_⟩
  rw [hbl]
  have hl : (zs.take len).length = len := by rw [List.length_take]; omega
  rcases h with ⟨rfl, rfl, rfl, rfl⟩ | ⟨x, rfl, h1, h2, h3, h4, h5⟩
  · exact .inl ⟨rfl, rfl⟩
  · obtain ⟨hb, hs⟩ := hp x rfl
    obtain ⟨b, off, spot⟩ := x
    subst hs
    refine .inr ⟨b, off, cap, by rw [hl], by rw [hl]; exact h1, h2, hb, fun i hi => ?_⟩
    rw [hl] at hi
    have := h4 i (by omega)
    rw [Go.WideShapes.add_plain] at this
    rw [this]
    simp [List.getD, List.getElem?_take, hi]

end


theorem is_valV {B : Nat} {p : Nat → Addr} {w : World} (hE : Errs (List.range 21) B p w) (c : Nat) :
    Calls Tryz.prog 7 #[valV p c, .int .i64 (codeV c : Nat)] w fun e w' => e = .returned (.bool true) ∧ Below w.heap.size w w' := by
  match c with
  | 0 => exact is_nil 0 w
  | 1 => exact is_ev hE (k := 2) (by decide) 103
  | _ + 2 => exact is_ev hE (k := 10) (by decide) 111
theorem codeV_cases (c : Nat) : codeV c = 0 ∨ codeV c = 103 ∨ codeV c = 111 := by
  unfold codeV; split <;> simp
theorem parseC_cases (ws : List ByteArray) : parseC ws = 0 ∨ parseC ws = 103 ∨ parseC ws = 111 ∨ parseC ws = 118 ∨ parseC ws = 119 := by
  unfold parseC
  have := codeV_cases (validW ws)
  split
  · simp
  · split
    · simp
    · split
      · simp
      · split
        · simp
        · omega
theorem is_parse {B : Nat} {p : Nat → Addr} {w : World} (hE : Errs (List.range 21) B p w) (ws : List ByteArray) :
    Calls Tryz.prog 7 #[errN p (parseC ws), .int .i64 (parseC ws : Nat)] w fun e w' => e = .returned (.bool true) ∧ Below w.heap.size w w' := by
  rcases parseC_cases ws with h | h | h | h | h <;> rw [h]
  · exact is_nil 0 w
  · exact is_ev hE (k := 2) (by decide) 103
  · exact is_ev hE (k := 10) (by decide) 111
  · exact is_ev hE (k := 17) (by decide) 118
  · exact is_ev hE (k := 18) (by decide) 119
theorem same_err {B : Nat} {p : Nat → Addr} {w : World} (hE : Errs (List.range 21) B p w) {er : Value} {f : Nat × Bool × Nat} (h : ErrIs p w er f) {c : Int} {b : Bool} {q : Int} (hf : f = (Int.toNat c, b, Int.toNat q)) (hc : 0 ≤ c) (hq : 0 ≤ q) :
    Calls Tryz.prog 19 #[er, faultV c b q] w fun e w' => e = .returned (.bool true) ∧ Below w.heap.size w w' := by
  rcases h with ⟨h1, rfl⟩ | ⟨k, hk, h1, rfl⟩ | ⟨k, i, eb, hk, h1, rfl, hA⟩
  · rw [hf] at h1
    obtain ⟨h1, rfl, h3⟩ : Int.toNat c = 0 ∧ b = false ∧ Int.toNat q = 0 := by simpa using h1
    obtain rfl : c = 0 := by omega
    obtain rfl : q = 0 := by omega
    exact same_nil 0 false 0 w
  · rw [hf] at h1
    obtain ⟨h1, rfl, h3⟩ : Int.toNat c = 101 + k ∧ b = false ∧ Int.toNat q = 0 := by simpa using h1
    obtain rfl : c = 101 + (k : Int) := by omega
    obtain rfl : q = 0 := by omega
    have := same_ev hE hk (101 + (k : Int)) false 0
    rwa [show sameF (101 + (k : Int)) false 0 (101 + (k : Int)) false 0 = true by simp [sameF]] at this
  · rw [hf] at h1
    obtain ⟨h1, rfl, h3⟩ : Int.toNat c = 101 + k ∧ b = true ∧ Int.toNat q = i := by simpa using h1
    obtain rfl : c = 101 + (k : Int) := by omega
    obtain rfl : q = (i : Int) := by omega
    have := same_at hE hk hA (101 + (k : Int)) true (i : Int)
    rwa [show sameF (101 + (k : Int)) true (i : Int) (101 + (k : Int)) true (i : Int) = true by simp [sameF]] at this
theorem readO_op (l : List UInt8) : ∃ y0 y1 y2 y3 y4 y5 y6 y7 : Int, readO l = opV y0 y1 y2 y3 y4 y5 y6 y7 := by
  unfold readO
  split
  · exact ⟨_, _, _, _, _, _, _, _, rfl⟩
  · exact ⟨_, _, _, _, _, _, _, _, rfl⟩
theorem parseO_op (ws : List ByteArray) : ∃ y0 y1 y2 y3 y4 y5 y6 y7 : Int, parseO ws = opV y0 y1 y2 y3 y4 y5 y6 y7 := by
  unfold parseO
  split
  · exact ⟨_, _, _, _, _, _, _, _, rfl⟩
  · exact ⟨_, _, _, _, _, _, _, _, rfl⟩
theorem sameO_refl (a b c d e f g h : Int) : sameO a b c d e f g h a b c d e f g h = true := by simp [sameO]
/-- A fault's cells. -/
structure FltAt (w : World) (g : Nat) (c : Int) (b : Bool) (q : Int) : Prop where
  c0 : w.cell? ⟨g, 0, none⟩ = some (.int .i64 c)
  c1 : w.cell? ⟨g, 1, none⟩ = some (.bool b)
  c2 : w.cell? ⟨g, 2, none⟩ = some (.int .i64 q)
theorem FltAt.lt {w : World} {g : Nat} {c : Int} {b : Bool} {q : Int} (h : FltAt w g c b q) : g < w.heap.size := World.block_lt_of_cell? w ⟨g, 0, none⟩ h.c0
theorem FltAt.below {w w' : World} {g : Nat} {c : Int} {b : Bool} {q : Int} (h : FltAt w g c b q) (k : Below w.heap.size w w') : FltAt w' g c b q :=
  ⟨(k.cell (p := ⟨g, 0, none⟩) h.lt).trans h.c0, (k.cell (p := ⟨g, 1, none⟩) h.lt).trans h.c1, (k.cell (p := ⟨g, 2, none⟩) h.lt).trans h.c2⟩
theorem IsStrs.srow {w : World} {a : Option Addr} {len cap : Nat} {ss : List ByteArray} (h : IsStrs w a len cap ss) : SRow w a (ss.take len) := by
  by_cases hp : 0 < len
  · rcases h with ⟨_, rfl, _, _⟩ | ⟨x, rfl, h1, h2, h3, h4⟩
    · omega
    · obtain ⟨b, off, spot⟩ := x
      have h0 := h4 0 (by omega)
      have hspot : spot = none := by simpa [Addr.add] using World.cell?_spot h0
      subst hspot
      have hb : b < w.heap.size := World.block_lt_of_cell? w ⟨b, off + 0, none⟩ (by rw [← Go.WideShapes.add_plain]; exact h0)
      refine .inr ⟨b, off, rfl, hb, fun j x hj => ?_⟩
      obtain ⟨hjl, hje⟩ := List.getElem?_eq_some_iff.1 hj
      rw [List.length_take] at hjl
      have := h4 j (by omega)
      rw [Go.WideShapes.add_plain] at this
      rw [this, ← hje, List.getElem_take]
      simp [List.getD, List.getElem?_eq_getElem (show j < ss.length by omega)]
  · obtain rfl : len = 0 := by omega
    exact .inl (by simp)

set_option maxHeartbeats 32000000 in
set_option maxRecDepth 100000 in
theorem walk_OpSays {p : Nat → Addr} {w : World} (hE : Errs (List.range 21) w.heap.size p w) (hT : ParW w.heap.size w) (id k a b c d n m : Int) (la : Option Addr) (llen lcap : Nat) (lz : List Int) (sa : Option Addr) (slen scap : Nat) (sz : List ByteArray) (_ : -9223372036854775808 ≤ id) (_ : id ≤ 9223372036854775807) (_ : -9223372036854775808 ≤ k) (_ : k ≤ 9223372036854775807) (_ : -9223372036854775808 ≤ a) (_ : a ≤ 9223372036854775807) (_ : -9223372036854775808 ≤ b) (_ : b ≤ 9223372036854775807) (_ : -9223372036854775808 ≤ c) (_ : c ≤ 9223372036854775807) (_ : -9223372036854775808 ≤ d) (_ : d ≤ 9223372036854775807) (_ : -9223372036854775808 ≤ n) (_ : n ≤ 9223372036854775807) (_ : -9223372036854775808 ≤ m) (_ : m ≤ 9223372036854775807) (h1 : IsRow .u8 w la llen lcap lz) (g1 : Placed w la) (h2 : IsStrs w sa slen scap sz) :
    Calls Tryz.prog 3 #[opV id k a b c d n m, .slice la llen lcap, .slice sa slen scap] w fun e w' => e = .returned (.bool true) ∧ Below w.heap.size w w' := by
  obtain ⟨l, hl1, hl2, hl3⟩ := h1.bytes g1
  have hs1 := h2.srow
  have hs2 := h2.len
  clear h1 h2 hl1 g1
  generalize sz.take slen = ws at hs1 hs2
  have hb0 : Below w.heap.size w (w.alloc (Obj.cells #[.int .i64 id, .int .i64 k, .int .i64 a, .int .i64 b, .int .i64 c, .int .i64 d, .int .i64 n, .int .i64 m] 23)) := (Below.refl _ _).alloc (Nat.le_refl _) _
  have HO := Lib.hid (opAt_new w id k a b c d n m 23)
  have HE := Lib.hid (hE.below hb0)
  have HT := Lib.hid (hT.on hb0)
  have HR := Lib.hid (hl3.below hb0)
  have HSr := Lib.hid (hs1.below hb0)
  have HB0 := Lib.hid hb0
  have hsz0 : w.heap.size < (w.alloc (Obj.cells #[.int .i64 id, .int .i64 k, .int .i64 a, .int .i64 b, .int .i64 c, .int .i64 d, .int .i64 n, .int .i64 m] 23)).heap.size := by simp
  clear hE hT hl3 hs1 hb0
  go_enter Tryz.func3, Tryz.ntmps3
  go_upto_region 1 with fail
  generalize w.alloc (Obj.cells #[.int .i64 id, .int .i64 k, .int .i64 a, .int .i64 b, .int .i64 c, .int .i64 d, .int .i64 n, .int .i64 m] 23) = W1 at *
  have HB : Hid (Below W1.heap.size W1 W1) := Below.refl _ _
  go_wp2_with fail
  refine (first25_calls HE.out HT.out.op).mono ?_
  rintro e w2 ⟨rfl, hb⟩
  have HE := Lib.hid (HE.out.below (hb.mono HE.out.size))
  have HT := Lib.hid (HT.out.on hb)
  have HO := Lib.hid (HO.out.below hb)
  have HR := Lib.hid (HR.out.below hb)
  have HSr := Lib.hid (HSr.out.below hb)
  have HB := Lib.hid (bstep HB.out hb)
  clear hb
  by_cases hlen : 300 < llen
  · have d1 : decide ((llen : Int) > 300) = true := decide_eq_true (by omega)
    go_wp2_with fail
    go_ret
    exact ⟨rfl, bbase HB0.out HB.out⟩
  have d1 : decide ((llen : Int) > 300) = false := decide_eq_false (by omega)
  by_cases h12 : 12 < slen
  · have d2 : decide ((slen : Int) > 12) = true := decide_eq_true (by omega)
    go_wp2_with fail
    go_ret
    exact ⟨rfl, bbase HB0.out HB.out⟩
  have d2 : decide ((slen : Int) > 12) = false := decide_eq_false (by omega)
  go_wp2_with fail
  go_loop [8] (fun i => ∃ q : Nat, q ≤ slen ∧ i = .int .i64 q ∧ Hid (∀ j, j < q → (ws.getD j ⟨#[]⟩).size ≤ 30)) (fun i => slen - (intOf i).toNat)
  case atStart => exact ⟨0, by omega, rfl, fun j hj => by omega⟩
  case round =>
    obtain ⟨q, hq, rfl, hN⟩ := hrel
    by_cases hqn : q < slen
    · obtain ⟨g, off, rfl, hgs, hcell⟩ := HSr.out.open (by omega)
      have hx := hcell q (by omega)
      have hi0 : (0 : Int) ≤ (q : Int) := by omega
      have hi1 : (q : Int) < (slen : Int) := by omega
      have hq1 : IntKind.i64.wrap ((q : Int) + 1) = (q : Int) + 1 := IntWalk.i64_in _ (by omega)
      obtain ⟨y, hy⟩ : ∃ y, y = ws.getD q ⟨#[]⟩ := ⟨_, rfl⟩
      rw [← hy] at hx
      have HY := Lib.hid hy
      clear hcell hy
      by_cases h30 : 30 < y.size
      · have d3 : decide ((y.size : Int) > 30) = true := decide_eq_true (by omega)
        go_wp2_with fail
        go_ret
        exact ⟨rfl, bbase HB0.out HB.out⟩
      · have d3 : decide ((y.size : Int) > 30) = false := decide_eq_false (by omega)
        have hN2 : Hid (∀ j, j < q + 1 → (ws.getD j ⟨#[]⟩).size ≤ 30) := fun j hj => by
          by_cases e : j = q
          · rw [e, ← HY.out]; omega
          · exact hN.out j (by omega)
        clear hN
        go_wp2_with fail
        go_round
        case rel => exact ⟨q + 1, by omega, by go_num, hN2⟩
        case measure => simp [intOf]; omega
    · obtain rfl : q = slen := by omega
      have HSz : Hid (∀ j, j < ws.length → (ws.getD j ⟨#[]⟩).size ≤ 30) := fun j hj => hN.out j (by omega)
      clear hN
      have hlw : l.length ≤ 300 := by omega
      have x0 := HO.out.c0; have x1 := HO.out.c1; have x2 := HO.out.c2; have x3 := HO.out.c3; have x4 := HO.out.c4; have x5 := HO.out.c5; have x6 := HO.out.c6; have x7 := HO.out.c7
      go_wp2_with fail
      refine (refValid_calls id k a b c d n m _).mono ?_
      rintro e w3 ⟨rfl, hb⟩
      have HE := Lib.hid (HE.out.below (hb.mono HE.out.size))
      have HT := Lib.hid (HT.out.on hb)
      have HO := Lib.hid (HO.out.below hb)
      have HR := Lib.hid (HR.out.below hb)
      have HSr := Lib.hid (HSr.out.below hb)
      have HB := Lib.hid (bstep HB.out hb)
      clear hb
      clear x0 x1 x2 x3 x4 x5 x6 x7
      have x0 := HO.out.c0; have x1 := HO.out.c1; have x2 := HO.out.c2; have x3 := HO.out.c3; have x4 := HO.out.c4; have x5 := HO.out.c5; have x6 := HO.out.c6; have x7 := HO.out.c7
      go_wp2_with fail
      refine (opBytes_calls HE.out HT.out.op id k a b c d n m).mono ?_
      rintro e w4 ⟨⟨u, rfl, hu0, hu1⟩, hb⟩
      have HE := Lib.hid (HE.out.below (hb.mono HE.out.size))
      have HT := Lib.hid (HT.out.on hb)
      have HO := Lib.hid (HO.out.below hb)
      have HR := Lib.hid (HR.out.below hb)
      have HSr := Lib.hid (HSr.out.below hb)
      have HB := Lib.hid (bstep HB.out hb)
      clear hb
      clear x0 x1 x2 x3 x4 x5 x6 x7
      have HU0 : Hid (validC id k a b c d n m = 0 → RdB w4 u (bytesI (numsB (numsO id k a b c d n m)))) := fun h => (hu0 h).rd
      have HU1 := Lib.hid hu1
      clear hu0 hu1
      go_upto_region 13 with fail
      obtain ⟨vc, hvc⟩ : ∃ vc, vc = validC id k a b c d n m := ⟨_, rfl⟩
      have HVal : Hid (∀ w', Errs (List.range 21) w.heap.size p w' → OpW w.heap.size w' → Calls Tryz.prog 8 #[opV id k a b c d n m] w' fun e w'' => e = .returned (valV p vc) ∧ Below w'.heap.size w' w'') := fun w' h1 h2 => by rw [hvc]; exact valid_calls h1 h2 id k a b c d n m
      rw [← hvc] at HU0 HU1 ⊢
      have HVC := Lib.hid hvc
      clear hvc
      have HNa : Hid (∀ w', OpW w.heap.size w' → Calls Tryz.prog 9 #[.int .i64 k] w' fun e w'' => e = .returned (.string (nameB k)) ∧ Below w'.heap.size w' w'') := fun w' h => name_calls h k
      have HNr : Hid (∀ w', Calls Tryz.prog 10 #[.int .i64 k] w' fun e w'' => e = .returned (.string (nameB k)) ∧ Below w'.heap.size w' w'') := fun w' => refName_calls k w'
      generalize nameB k = nk at *
      have hbD : Below w4.heap.size w4 w4.drew := (Below.refl _ _).drew
      obtain ⟨cv, hcv⟩ : ∃ cv : Int, cv = (codeV vc : Nat) := ⟨_, rfl⟩
      have HIs : Hid (∀ w', Errs (List.range 21) w.heap.size p w' → Calls Tryz.prog 7 #[valV p vc, .int .i64 cv] w' fun e w'' => e = .returned (.bool true) ∧ Below w'.heap.size w' w'') := fun w' h => by rw [hcv]; exact is_valV h vc
      rw [← hcv]
      have HCV := Lib.hid hcv
      clear hcv
      obtain ⟨ver, hver⟩ : ∃ v, v = valV p vc := ⟨_, rfl⟩
      rw [← hver] at HIs HVal ⊢
      clear hver
      refine wp_region_held_drew (S := (fun w1 => w1.cell? ⟨w.heap.size, 0, none⟩ = some (.int .i64 id) ∧ w1.cell? ⟨w.heap.size, 1, none⟩ = some (.int .i64 k) ∧ w1.cell? ⟨w.heap.size, 2, none⟩ = some (.int .i64 a) ∧ w1.cell? ⟨w.heap.size, 3, none⟩ = some (.int .i64 b) ∧ w1.cell? ⟨w.heap.size, 4, none⟩ = some (.int .i64 c) ∧ w1.cell? ⟨w.heap.size, 5, none⟩ = some (.int .i64 d) ∧ w1.cell? ⟨w.heap.size, 6, none⟩ = some (.int .i64 n) ∧ w1.cell? ⟨w.heap.size, 7, none⟩ = some (.int .i64 m))) (by kernel_rfl) ⟨HO.out.c0, HO.out.c1, HO.out.c2, HO.out.c3, HO.out.c4, HO.out.c5, HO.out.c6, HO.out.c7⟩ (fun hHeld => ?_)
      refine wpAnyH_take (i := 0) (v := (.agg #[.int .i64 id, .int .i64 k, .int .i64 a, .int .i64 b, .int .i64 c, .int .i64 d, .int .i64 n, .int .i64 m])) rfl (by kernel_rfl) (by kernel_rfl) (by kernel_rfl) (fun _ _ _ h => h) (Or.inl ⟨by rfl, fun w hSw => by (obtain ⟨s0, s1, s2, s3, s4, s5, s6, s7⟩ := hSw; go_simp)⟩) hHeld ?_
      (try simp only [Act.put, List.getElem_toArray, List.getElem_cons_succ, List.getElem_cons_zero, List.setIfInBounds_toArray, List.set_cons_zero, List.set_cons_succ])
      refine wpAnyH_take (i := 2) (v := (.int .i64 cv)) rfl (by kernel_rfl) (by kernel_rfl) (by kernel_rfl) (fun _ _ _ h => h) (Or.inl ⟨by rfl, fun w hSw => by (go_simp)⟩) hHeld ?_
      (try simp only [Act.put, List.getElem_toArray, List.getElem_cons_succ, List.getElem_cons_zero, List.setIfInBounds_toArray, List.set_cons_zero, List.set_cons_succ])
      refine wpAnyH_ready (rs := [1]) (by kernel_rfl) (by simp) ?_
      refine AllReadyH.cons rfl (fun K hK => ?_) AllReadyH.nil
      go_simp
      go_wp2_with (go_at_call 8; refine (HVal.out _ (HE.out.below (hbD.mono HE.out.size)) (HT.out.on hbD).op).mono ?_; rintro e w5 ⟨rfl, hb⟩)
      have hb := hbD.trans hb
      have HE := Lib.hid (HE.out.below (hb.mono HE.out.size))
      have HT := Lib.hid (HT.out.on hb)
      have HO := Lib.hid (HO.out.below hb)
      have HR := Lib.hid (HR.out.below hb)
      have HSr := Lib.hid (HSr.out.below hb)
      have HU0 := Lib.hid (fun h => (HU0.out h).below hb)
      have HB := Lib.hid (bstep HB.out hb)
      clear hb
      refine hK.out _ _ ⟨HO.out.c0, HO.out.c1, HO.out.c2, HO.out.c3, HO.out.c4, HO.out.c5, HO.out.c6, HO.out.c7⟩ (fun hHeld2 => ?_)
      clear hHeld hK K
      have hHeld := hHeld2
      clear hHeld2
      (try simp only [Act.put, List.getElem_toArray, List.getElem_cons_succ, List.getElem_cons_zero, List.setIfInBounds_toArray, List.set_cons_zero, List.set_cons_succ])
      refine wpAnyH_ready (rs := [3]) (by kernel_rfl) (by simp) ?_
      refine AllReadyH.cons rfl (fun K hK => ?_) AllReadyH.nil
      go_simp
      go_wp2_with (go_at_call 7; refine (HIs.out _ HE.out).mono ?_; rintro e w6 ⟨rfl, hb⟩)
      have HE := Lib.hid (HE.out.below (hb.mono HE.out.size))
      have HT := Lib.hid (HT.out.on hb)
      have HO := Lib.hid (HO.out.below hb)
      have HR := Lib.hid (HR.out.below hb)
      have HSr := Lib.hid (HSr.out.below hb)
      have HU0 := Lib.hid (fun h => (HU0.out h).below hb)
      have HB := Lib.hid (bstep HB.out hb)
      clear hb
      refine hK.out _ _ ⟨HO.out.c0, HO.out.c1, HO.out.c2, HO.out.c3, HO.out.c4, HO.out.c5, HO.out.c6, HO.out.c7⟩ (fun hHeld2 => ?_)
      clear hHeld hK K
      have hHeld := hHeld2
      clear hHeld2
      (try simp only [Act.put, List.getElem_toArray, List.getElem_cons_succ, List.getElem_cons_zero, List.setIfInBounds_toArray, List.set_cons_zero, List.set_cons_succ])
      refine wpAnyH_take (i := 4) (v := (.bool false)) rfl (by kernel_rfl) (by kernel_rfl) (by kernel_rfl) (fun _ _ _ h => h) (Or.inl ⟨by rfl, fun w hSw => by (go_simp)⟩) hHeld ?_
      (try simp only [Act.put, List.getElem_toArray, List.getElem_cons_succ, List.getElem_cons_zero, List.setIfInBounds_toArray, List.set_cons_zero, List.set_cons_succ])
      refine wpAnyH_take (i := 5) (v := (.bool false)) rfl (by kernel_rfl) (by kernel_rfl) (by kernel_rfl) (fun _ _ _ h => h) (Or.inl ⟨by rfl, fun w hSw => by (go_simp)⟩) hHeld ?_
      (try simp only [Act.put, List.getElem_toArray, List.getElem_cons_succ, List.getElem_cons_zero, List.setIfInBounds_toArray, List.set_cons_zero, List.set_cons_succ])
      refine wpAnyH_take (i := 6) (v := (ver)) rfl (by kernel_rfl) (by kernel_rfl) (by kernel_rfl) (fun _ _ _ h => h) (Or.inl ⟨by rfl, fun w hSw => by (go_simp)⟩) hHeld ?_
      (try simp only [Act.put, List.getElem_toArray, List.getElem_cons_succ, List.getElem_cons_zero, List.setIfInBounds_toArray, List.set_cons_zero, List.set_cons_succ])
      refine wpAnyH_take (i := 7) (v := (.int .i64 cv)) rfl (by kernel_rfl) (by kernel_rfl) (by kernel_rfl) (fun _ _ _ h => h) (Or.inl ⟨by rfl, fun w hSw => by (go_simp)⟩) hHeld ?_
      (try simp only [Act.put, List.getElem_toArray, List.getElem_cons_succ, List.getElem_cons_zero, List.setIfInBounds_toArray, List.set_cons_zero, List.set_cons_succ])
      refine wpAnyH_ready (rs := [8]) (by kernel_rfl) (by simp) ?_
      refine AllReadyH.cons rfl (fun K hK => ?_) AllReadyH.nil
      go_simp
      go_wp2_with (go_at_call 7; refine (HIs.out _ HE.out).mono ?_; rintro e w7 ⟨rfl, hb⟩)
      have HE := Lib.hid (HE.out.below (hb.mono HE.out.size))
      have HT := Lib.hid (HT.out.on hb)
      have HO := Lib.hid (HO.out.below hb)
      have HR := Lib.hid (HR.out.below hb)
      have HSr := Lib.hid (HSr.out.below hb)
      have HU0 := Lib.hid (fun h => (HU0.out h).below hb)
      have HB := Lib.hid (bstep HB.out hb)
      clear hb
      refine hK.out _ _ ⟨HO.out.c0, HO.out.c1, HO.out.c2, HO.out.c3, HO.out.c4, HO.out.c5, HO.out.c6, HO.out.c7⟩ (fun hHeld2 => ?_)
      clear hHeld hK K
      have hHeld := hHeld2
      clear hHeld2
      (try simp only [Act.put, List.getElem_toArray, List.getElem_cons_succ, List.getElem_cons_zero, List.setIfInBounds_toArray, List.set_cons_zero, List.set_cons_succ])
      refine wpAnyH_take (i := 9) (v := (.bool false)) rfl (by kernel_rfl) (by kernel_rfl) (by kernel_rfl) (fun _ _ _ h => h) (Or.inl ⟨by rfl, fun w hSw => by (go_simp)⟩) hHeld ?_
      (try simp only [Act.put, List.getElem_toArray, List.getElem_cons_succ, List.getElem_cons_zero, List.setIfInBounds_toArray, List.set_cons_zero, List.set_cons_succ])
      refine wpAnyH_take (i := 10) (v := (.bool false)) rfl (by kernel_rfl) (by kernel_rfl) (by kernel_rfl) (fun _ _ _ h => h) (Or.inl ⟨by rfl, fun w hSw => by (go_simp)⟩) hHeld ?_
      (try simp only [Act.put, List.getElem_toArray, List.getElem_cons_succ, List.getElem_cons_zero, List.setIfInBounds_toArray, List.set_cons_zero, List.set_cons_succ])
      refine wpAnyH_take (i := 11) (v := (.bool false)) rfl (by kernel_rfl) (by kernel_rfl) (by kernel_rfl) (fun _ _ _ h => h) (Or.inl ⟨by rfl, fun w hSw => by (go_simp)⟩) hHeld ?_
      (try simp only [Act.put, List.getElem_toArray, List.getElem_cons_succ, List.getElem_cons_zero, List.setIfInBounds_toArray, List.set_cons_zero, List.set_cons_succ])
      refine wpAnyH_take (i := 12) (v := (.pointer (some ⟨w.heap.size, 1, none⟩))) rfl (by kernel_rfl) (by kernel_rfl) (by kernel_rfl) (fun _ _ _ h => h) (Or.inl ⟨by rfl, fun w hSw => by (go_simp)⟩) hHeld ?_
      (try simp only [Act.put, List.getElem_toArray, List.getElem_cons_succ, List.getElem_cons_zero, List.setIfInBounds_toArray, List.set_cons_zero, List.set_cons_succ])
      refine wpAnyH_take (i := 13) (v := (.int .i64 k)) rfl (by kernel_rfl) (by kernel_rfl) (by kernel_rfl) (fun _ _ _ h => h) (Or.inl ⟨by rfl, fun w hSw => by (obtain ⟨s0, s1, s2, s3, s4, s5, s6, s7⟩ := hSw; go_simp)⟩) hHeld ?_
      (try simp only [Act.put, List.getElem_toArray, List.getElem_cons_succ, List.getElem_cons_zero, List.setIfInBounds_toArray, List.set_cons_zero, List.set_cons_succ])
      refine wpAnyH_take (i := 15) (v := (.pointer (some ⟨w.heap.size, 1, none⟩))) rfl (by kernel_rfl) (by kernel_rfl) (by kernel_rfl) (fun _ _ _ h => h) (Or.inl ⟨by rfl, fun w hSw => by (go_simp)⟩) hHeld ?_
      (try simp only [Act.put, List.getElem_toArray, List.getElem_cons_succ, List.getElem_cons_zero, List.setIfInBounds_toArray, List.set_cons_zero, List.set_cons_succ])
      refine wpAnyH_take (i := 16) (v := (.int .i64 k)) rfl (by kernel_rfl) (by kernel_rfl) (by kernel_rfl) (fun _ _ _ h => h) (Or.inl ⟨by rfl, fun w hSw => by (obtain ⟨s0, s1, s2, s3, s4, s5, s6, s7⟩ := hSw; go_simp)⟩) hHeld ?_
      (try simp only [Act.put, List.getElem_toArray, List.getElem_cons_succ, List.getElem_cons_zero, List.setIfInBounds_toArray, List.set_cons_zero, List.set_cons_succ])
      refine wpAnyH_ready (rs := [14]) (by kernel_rfl) (by simp) ?_
      refine AllReadyH.cons rfl (fun K hK => ?_) AllReadyH.nil
      go_simp
      go_wp2_with (go_at_call 9; refine (HNa.out _ HT.out.op).mono ?_; rintro e w8 ⟨rfl, hb⟩)
      have HE := Lib.hid (HE.out.below (hb.mono HE.out.size))
      have HT := Lib.hid (HT.out.on hb)
      have HO := Lib.hid (HO.out.below hb)
      have HR := Lib.hid (HR.out.below hb)
      have HSr := Lib.hid (HSr.out.below hb)
      have HU0 := Lib.hid (fun h => (HU0.out h).below hb)
      have HB := Lib.hid (bstep HB.out hb)
      clear hb
      refine hK.out _ _ ⟨HO.out.c0, HO.out.c1, HO.out.c2, HO.out.c3, HO.out.c4, HO.out.c5, HO.out.c6, HO.out.c7⟩ (fun hHeld2 => ?_)
      clear hHeld hK K
      have hHeld := hHeld2
      clear hHeld2
      (try simp only [Act.put, List.getElem_toArray, List.getElem_cons_succ, List.getElem_cons_zero, List.setIfInBounds_toArray, List.set_cons_zero, List.set_cons_succ])
      refine wpAnyH_ready (rs := [17]) (by kernel_rfl) (by simp) ?_
      refine AllReadyH.cons rfl (fun K hK => ?_) AllReadyH.nil
      go_simp
      go_wp2_with (go_at_call 10; refine (HNr.out _).mono ?_; rintro e w9 ⟨rfl, hb⟩)
      have HE := Lib.hid (HE.out.below (hb.mono HE.out.size))
      have HT := Lib.hid (HT.out.on hb)
      have HO := Lib.hid (HO.out.below hb)
      have HR := Lib.hid (HR.out.below hb)
      have HSr := Lib.hid (HSr.out.below hb)
      have HU0 := Lib.hid (fun h => (HU0.out h).below hb)
      have HB := Lib.hid (bstep HB.out hb)
      clear hb
      refine hK.out _ _ ⟨HO.out.c0, HO.out.c1, HO.out.c2, HO.out.c3, HO.out.c4, HO.out.c5, HO.out.c6, HO.out.c7⟩ (fun hHeld2 => ?_)
      clear hHeld hK K
      have hHeld := hHeld2
      clear hHeld2
      (try simp only [Act.put, List.getElem_toArray, List.getElem_cons_succ, List.getElem_cons_zero, List.setIfInBounds_toArray, List.set_cons_zero, List.set_cons_succ])
      refine wpAnyH_take (i := 18) (v := (.bool false)) rfl (by kernel_rfl) (by kernel_rfl) (by kernel_rfl) (fun _ _ _ h => h) (Or.inl ⟨by rfl, fun w hSw => by (go_simp)⟩) hHeld ?_
      (try simp only [Act.put, List.getElem_toArray, List.getElem_cons_succ, List.getElem_cons_zero, List.setIfInBounds_toArray, List.set_cons_zero, List.set_cons_succ])
      refine wpAnyH_take (i := 19) (v := (.bool false)) rfl (by kernel_rfl) (by kernel_rfl) (by kernel_rfl) (fun _ _ _ h => h) (Or.inl ⟨by rfl, fun w hSw => by (go_simp)⟩) hHeld ?_
      (try simp only [Act.put, List.getElem_toArray, List.getElem_cons_succ, List.getElem_cons_zero, List.setIfInBounds_toArray, List.set_cons_zero, List.set_cons_succ])
      refine wpAnyH_done (by kernel_rfl) ?_ _
      clear HVal HIs HNa HNr hHeld hbD
      subst hs2
      by_cases hv : vc = 0
      · subst hv
        obtain rfl : cv = 0 := HCV.out
        have HU := Lib.hid (HU0.out rfl)
        have hvz := HVC.out.symm
        have HRB : Hid (∀ w', Calls Tryz.prog 12 #[opV id k a b c d n m] w' fun e w'' => ∃ v, e = .returned v ∧ RdB w'' v (bytesI (numsB (numsO id k a b c d n m))) ∧ Below w'.heap.size w' w'') := fun w' => refBytes26_calls hvz w'
        have HTx : Hid (∀ w', Errs (List.range 21) w.heap.size p w' → OpW w.heap.size w' → Calls Tryz.prog 13 #[opV id k a b c d n m] w' fun e w'' => e = .returned (.string (textT id k a b c d n m)) ∧ Below w'.heap.size w' w'') := fun w' h1 h2 => by
          have h := text_calls h1 h2 id k a b c d n m
          rw [show textB id k a b c d n m = textT id k a b c d n m from if_pos hvz] at h
          exact h
        have HTr : Hid (∀ w', OpW w.heap.size w' → Calls Tryz.prog 14 #[opV id k a b c d n m] w' fun e w'' => e = .returned (.string (textT id k a b c d n m)) ∧ Below w'.heap.size w' w'') := fun w' h => refText_calls hvz h
        clear HU0 HU1 HVC HCV hvz
        generalize textT id k a b c d n m = tx at *
        generalize bytesI (numsB (numsO id k a b c d n m)) = bs at *
        go_upto_region 18 with fail
        have hbD : Below w9.heap.size w9 w9.drew := (Below.refl _ _).drew
        refine wp_region_held_drew (S := (fun w1 => w1.cell? ⟨w.heap.size, 0, none⟩ = some (.int .i64 id) ∧ w1.cell? ⟨w.heap.size, 1, none⟩ = some (.int .i64 k) ∧ w1.cell? ⟨w.heap.size, 2, none⟩ = some (.int .i64 a) ∧ w1.cell? ⟨w.heap.size, 3, none⟩ = some (.int .i64 b) ∧ w1.cell? ⟨w.heap.size, 4, none⟩ = some (.int .i64 c) ∧ w1.cell? ⟨w.heap.size, 5, none⟩ = some (.int .i64 d) ∧ w1.cell? ⟨w.heap.size, 6, none⟩ = some (.int .i64 n) ∧ w1.cell? ⟨w.heap.size, 7, none⟩ = some (.int .i64 m))) (by kernel_rfl) ⟨HO.out.c0, HO.out.c1, HO.out.c2, HO.out.c3, HO.out.c4, HO.out.c5, HO.out.c6, HO.out.c7⟩ (fun hHeld => ?_)
        refine wpAnyH_take (i := 0) (v := (u)) rfl (by kernel_rfl) (by kernel_rfl) (by kernel_rfl) (fun _ _ _ h => h) (Or.inl ⟨by rfl, fun w hSw => by (go_simp)⟩) hHeld ?_
        (try simp only [Act.put, List.getElem_toArray, List.getElem_cons_succ, List.getElem_cons_zero, List.setIfInBounds_toArray, List.set_cons_zero, List.set_cons_succ])
        refine wpAnyH_take (i := 1) (v := (.agg #[.int .i64 id, .int .i64 k, .int .i64 a, .int .i64 b, .int .i64 c, .int .i64 d, .int .i64 n, .int .i64 m])) rfl (by kernel_rfl) (by kernel_rfl) (by kernel_rfl) (fun _ _ _ h => h) (Or.inl ⟨by rfl, fun w hSw => by (obtain ⟨s0, s1, s2, s3, s4, s5, s6, s7⟩ := hSw; go_simp)⟩) hHeld ?_
        (try simp only [Act.put, List.getElem_toArray, List.getElem_cons_succ, List.getElem_cons_zero, List.setIfInBounds_toArray, List.set_cons_zero, List.set_cons_succ])
        refine wpAnyH_ready (rs := [2]) (by kernel_rfl) (by simp) ?_
        refine AllReadyH.cons rfl (fun K hK => ?_) AllReadyH.nil
        go_simp
        go_wp2_with (go_at_call 12; refine (HRB.out _).mono ?_; rintro e wq ⟨uv, rfl, hrv, hb⟩)
        have hb := hbD.trans hb
        have HE := Lib.hid (HE.out.below (hb.mono HE.out.size))
        have HT := Lib.hid (HT.out.on hb)
        have HO := Lib.hid (HO.out.below hb)
        have HR := Lib.hid (HR.out.below hb)
        have HSr := Lib.hid (HSr.out.below hb)
        have HU := Lib.hid (HU.out.below hb)
        have HB := Lib.hid (bstep HB.out hb)
        have HV := Lib.hid hrv
        clear hrv
        clear hb
        refine hK.out _ _ ⟨HO.out.c0, HO.out.c1, HO.out.c2, HO.out.c3, HO.out.c4, HO.out.c5, HO.out.c6, HO.out.c7⟩ (fun hHeld2 => ?_)
        clear hHeld hK K
        have hHeld := hHeld2
        clear hHeld2
        (try simp only [Act.put, List.getElem_toArray, List.getElem_cons_succ, List.getElem_cons_zero, List.setIfInBounds_toArray, List.set_cons_zero, List.set_cons_succ])
        refine wpAnyH_ready (rs := [3]) (by kernel_rfl) (by simp) ?_
        refine AllReadyH.cons rfl (fun K hK => ?_) AllReadyH.nil
        go_simp
        go_wp2_with (go_at_call 11; refine (sameBytesG_calls HU.out HV.out).mono ?_; rintro e wr ⟨rfl, hb⟩)
        have HE := Lib.hid (HE.out.below (hb.mono HE.out.size))
        have HT := Lib.hid (HT.out.on hb)
        have HO := Lib.hid (HO.out.below hb)
        have HR := Lib.hid (HR.out.below hb)
        have HSr := Lib.hid (HSr.out.below hb)
        have HU := Lib.hid (HU.out.below hb)
        have HV := Lib.hid (HV.out.below hb)
        have HB := Lib.hid (bstep HB.out hb)
        clear hb
        refine hK.out _ _ ⟨HO.out.c0, HO.out.c1, HO.out.c2, HO.out.c3, HO.out.c4, HO.out.c5, HO.out.c6, HO.out.c7⟩ (fun hHeld2 => ?_)
        clear hHeld hK K
        have hHeld := hHeld2
        clear hHeld2
        (try simp only [Act.put, List.getElem_toArray, List.getElem_cons_succ, List.getElem_cons_zero, List.setIfInBounds_toArray, List.set_cons_zero, List.set_cons_succ])
        refine wpAnyH_take (i := 4) (v := (.bool false)) rfl (by kernel_rfl) (by kernel_rfl) (by kernel_rfl) (fun _ _ _ h => h) (Or.inl ⟨by rfl, fun w hSw => by (go_simp)⟩) hHeld ?_
        (try simp only [Act.put, List.getElem_toArray, List.getElem_cons_succ, List.getElem_cons_zero, List.setIfInBounds_toArray, List.set_cons_zero, List.set_cons_succ])
        refine wpAnyH_take (i := 5) (v := (.bool false)) rfl (by kernel_rfl) (by kernel_rfl) (by kernel_rfl) (fun _ _ _ h => h) (Or.inl ⟨by rfl, fun w hSw => by (go_simp)⟩) hHeld ?_
        (try simp only [Act.put, List.getElem_toArray, List.getElem_cons_succ, List.getElem_cons_zero, List.setIfInBounds_toArray, List.set_cons_zero, List.set_cons_succ])
        refine wpAnyH_take (i := 6) (v := (.agg #[.int .i64 id, .int .i64 k, .int .i64 a, .int .i64 b, .int .i64 c, .int .i64 d, .int .i64 n, .int .i64 m])) rfl (by kernel_rfl) (by kernel_rfl) (by kernel_rfl) (fun _ _ _ h => h) (Or.inl ⟨by rfl, fun w hSw => by (obtain ⟨s0, s1, s2, s3, s4, s5, s6, s7⟩ := hSw; go_simp)⟩) hHeld ?_
        (try simp only [Act.put, List.getElem_toArray, List.getElem_cons_succ, List.getElem_cons_zero, List.setIfInBounds_toArray, List.set_cons_zero, List.set_cons_succ])
        refine wpAnyH_take (i := 8) (v := (.agg #[.int .i64 id, .int .i64 k, .int .i64 a, .int .i64 b, .int .i64 c, .int .i64 d, .int .i64 n, .int .i64 m])) rfl (by kernel_rfl) (by kernel_rfl) (by kernel_rfl) (fun _ _ _ h => h) (Or.inl ⟨by rfl, fun w hSw => by (obtain ⟨s0, s1, s2, s3, s4, s5, s6, s7⟩ := hSw; go_simp)⟩) hHeld ?_
        (try simp only [Act.put, List.getElem_toArray, List.getElem_cons_succ, List.getElem_cons_zero, List.setIfInBounds_toArray, List.set_cons_zero, List.set_cons_succ])
        refine wpAnyH_ready (rs := [7]) (by kernel_rfl) (by simp) ?_
        refine AllReadyH.cons rfl (fun K hK => ?_) AllReadyH.nil
        go_simp
        go_wp2_with (go_at_call 13; refine (HTx.out _ HE.out HT.out.op).mono ?_; rintro e ws1 ⟨rfl, hb⟩)
        have HE := Lib.hid (HE.out.below (hb.mono HE.out.size))
        have HT := Lib.hid (HT.out.on hb)
        have HO := Lib.hid (HO.out.below hb)
        have HR := Lib.hid (HR.out.below hb)
        have HSr := Lib.hid (HSr.out.below hb)
        have HU := Lib.hid (HU.out.below hb)
        have HV := Lib.hid (HV.out.below hb)
        have HB := Lib.hid (bstep HB.out hb)
        clear hb
        refine hK.out _ _ ⟨HO.out.c0, HO.out.c1, HO.out.c2, HO.out.c3, HO.out.c4, HO.out.c5, HO.out.c6, HO.out.c7⟩ (fun hHeld2 => ?_)
        clear hHeld hK K
        have hHeld := hHeld2
        clear hHeld2
        (try simp only [Act.put, List.getElem_toArray, List.getElem_cons_succ, List.getElem_cons_zero, List.setIfInBounds_toArray, List.set_cons_zero, List.set_cons_succ])
        refine wpAnyH_ready (rs := [9]) (by kernel_rfl) (by simp) ?_
        refine AllReadyH.cons rfl (fun K hK => ?_) AllReadyH.nil
        go_simp
        go_wp2_with (go_at_call 14; refine (HTr.out _ HT.out.op).mono ?_; rintro e wt ⟨rfl, hb⟩)
        have HE := Lib.hid (HE.out.below (hb.mono HE.out.size))
        have HT := Lib.hid (HT.out.on hb)
        have HO := Lib.hid (HO.out.below hb)
        have HR := Lib.hid (HR.out.below hb)
        have HSr := Lib.hid (HSr.out.below hb)
        have HU := Lib.hid (HU.out.below hb)
        have HV := Lib.hid (HV.out.below hb)
        have HB := Lib.hid (bstep HB.out hb)
        clear hb
        refine hK.out _ _ ⟨HO.out.c0, HO.out.c1, HO.out.c2, HO.out.c3, HO.out.c4, HO.out.c5, HO.out.c6, HO.out.c7⟩ (fun hHeld2 => ?_)
        clear hHeld hK K
        have hHeld := hHeld2
        clear hHeld2
        (try simp only [Act.put, List.getElem_toArray, List.getElem_cons_succ, List.getElem_cons_zero, List.setIfInBounds_toArray, List.set_cons_zero, List.set_cons_succ])
        refine wpAnyH_take (i := 10) (v := (.bool false)) rfl (by kernel_rfl) (by kernel_rfl) (by kernel_rfl) (fun _ _ _ h => h) (Or.inl ⟨by rfl, fun w hSw => by (go_simp)⟩) hHeld ?_
        (try simp only [Act.put, List.getElem_toArray, List.getElem_cons_succ, List.getElem_cons_zero, List.setIfInBounds_toArray, List.set_cons_zero, List.set_cons_succ])
        refine wpAnyH_take (i := 11) (v := (.bool false)) rfl (by kernel_rfl) (by kernel_rfl) (by kernel_rfl) (fun _ _ _ h => h) (Or.inl ⟨by rfl, fun w hSw => by (go_simp)⟩) hHeld ?_
        (try simp only [Act.put, List.getElem_toArray, List.getElem_cons_succ, List.getElem_cons_zero, List.setIfInBounds_toArray, List.set_cons_zero, List.set_cons_succ])
        refine wpAnyH_done (by kernel_rfl) ?_ _
        clear HRB HTx HTr hHeld hbD HU HV
        go_wp2_with fail
        refine (readOp_calls HE.out HT.out.op HR.out (by omega)).mono ?_
        rintro e wa ⟨⟨er, rfl, her⟩, hb⟩
        have HE := Lib.hid (HE.out.below (hb.mono HE.out.size))
        have HT := Lib.hid (HT.out.on hb)
        have HO := Lib.hid (HO.out.below hb)
        have HR := Lib.hid (HR.out.below hb)
        have HSr := Lib.hid (HSr.out.below hb)
        have HB := Lib.hid (bstep HB.out hb)
        have HA := Lib.hid her
        clear hb her
        obtain ⟨y0, y1, y2, y3, y4, y5, y6, y7, hro⟩ := readO_op l
        rw [hro]
        have HRO := Lib.hid hro
        clear hro
        have hb : Below wa.heap.size wa (wa.alloc (Obj.cells #[.int .i64 y0, .int .i64 y1, .int .i64 y2, .int .i64 y3, .int .i64 y4, .int .i64 y5, .int .i64 y6, .int .i64 y7] 23)) := (Below.refl _ _).alloc (Nat.le_refl _) _
        have HP := Lib.hid (opAt_new wa y0 y1 y2 y3 y4 y5 y6 y7 23)
        have HE := Lib.hid (HE.out.below (hb.mono HE.out.size))
        have HT := Lib.hid (HT.out.on hb)
        have HO := Lib.hid (HO.out.below hb)
        have HR := Lib.hid (HR.out.below hb)
        have HSr := Lib.hid (HSr.out.below hb)
        have HA := Lib.hid (HA.out.below hb)
        have HB := Lib.hid (bstep HB.out hb)
        clear hb
        go_wp2_with fail
        generalize wa.alloc (Obj.cells #[.int .i64 y0, .int .i64 y1, .int .i64 y2, .int .i64 y3, .int .i64 y4, .int .i64 y5, .int .i64 y6, .int .i64 y7] 23) = wb at *
        generalize wa.heap.size = pb at *
        refine (refRead_calls HR.out (by omega)).mono ?_
        rintro e wc ⟨⟨fc, fb, fq, rfl, hf1, hf2, hf3⟩, hb⟩
        rw [HRO.out]
        have HE := Lib.hid (HE.out.below (hb.mono HE.out.size))
        have HT := Lib.hid (HT.out.on hb)
        have HO := Lib.hid (HO.out.below hb)
        have HR := Lib.hid (HR.out.below hb)
        have HSr := Lib.hid (HSr.out.below hb)
        have HA := Lib.hid (HA.out.below hb)
        have HP := Lib.hid (HP.out.below hb)
        have HB := Lib.hid (bstep HB.out hb)
        have HFf := Lib.hid (And.intro hf1 (And.intro hf2 hf3))
        clear hb hf1 hf2 hf3
        have hal : Below wc.heap.size wc ((wc.alloc (Obj.cells #[.int .i64 0, .int .i64 0, .int .i64 0, .int .i64 0, .int .i64 0, .int .i64 0, .int .i64 0, .int .i64 0] 23)).alloc (Obj.cells #[.int .i64 0, .bool false, .int .i64 0] 41)) := by (repeat (first | exact Below.refl _ _ | assumption | refine Below.drew ?_ | refine below_many ?_ _ | refine Below.alloc ?_ (by first | (simp; done) | (simp; omega) | omega) _ | refine Below.setCell ?_ (by first | (simp; done) | (simp; omega) | omega) _))
        have hT1 := World.there.below (there_new wc #[.int .i64 0, .int .i64 0, .int .i64 0, .int .i64 0, .int .i64 0, .int .i64 0, .int .i64 0, .int .i64 0] 23 8 (by decide)) (show wc.heap.size < _ by simp) ((Below.refl _ _).alloc (Nat.le_refl _) (Obj.cells #[.int .i64 0, .bool false, .int .i64 0] 41))
        have hT2 := there_new (wc.alloc (Obj.cells #[.int .i64 0, .int .i64 0, .int .i64 0, .int .i64 0, .int .i64 0, .int .i64 0, .int .i64 0, .int .i64 0] 23)) #[.int .i64 0, .bool false, .int .i64 0] 41 3 (by decide)
        rw [show (wc.alloc (Obj.cells #[.int .i64 0, .int .i64 0, .int .i64 0, .int .i64 0, .int .i64 0, .int .i64 0, .int .i64 0, .int .i64 0] 23)).heap.size = wc.heap.size + 1 by simp] at hT2
        obtain ⟨X2, hX2⟩ : ∃ X2, X2 = ((wc.alloc (Obj.cells #[.int .i64 0, .int .i64 0, .int .i64 0, .int .i64 0, .int .i64 0, .int .i64 0, .int .i64 0, .int .i64 0] 23)).alloc (Obj.cells #[.int .i64 0, .bool false, .int .i64 0] 41)).setCells wc.heap.size 0 [.int .i64 y0, .int .i64 y1, .int .i64 y2, .int .i64 y3, .int .i64 y4, .int .i64 y5, .int .i64 y6, .int .i64 y7] := ⟨_, rfl⟩
        obtain ⟨X3, hX3⟩ : ∃ X3, X3 = X2.setCells (wc.heap.size + 1) 0 [.int .i64 fc, .bool fb, .int .i64 fq] := ⟨_, rfl⟩
        obtain ⟨hr8, hr3, hb9⟩ := two_stores (L8 := [.int .i64 y0, .int .i64 y1, .int .i64 y2, .int .i64 y3, .int .i64 y4, .int .i64 y5, .int .i64 y6, .int .i64 y7]) (L3 := [.int .i64 fc, .bool fb, .int .i64 fq]) hT1 hT2 (by simp) X3 (by rw [hX3, hX2])
        have HT1 := Lib.hid hT1
        have HT2 : Hid (X2.there (wc.heap.size + 1) 0 3) := by unfold Hid; rw [hX2]; exact World.there_setCells hT2 _ _ _
        have HX2 := Lib.hid hX2
        have HX3 := Lib.hid hX3
        have HQ : Hid (OpAt X3 wc.heap.size y0 y1 y2 y3 y4 y5 y6 y7) := by
          have h := fun j u hj => hr8 j u hj
          simp only [Nat.zero_add] at h
          exact ⟨h 0 _ rfl, h 1 _ rfl, h 2 _ rfl, h 3 _ rfl, h 4 _ rfl, h 5 _ rfl, h 6 _ rfl, h 7 _ rfl⟩
        have HF : Hid (FltAt X3 (wc.heap.size + 1) fc fb fq) := by
          have h := fun j u hj => hr3 j u hj
          simp only [Nat.zero_add] at h
          exact ⟨h 0 _ rfl, h 1 _ rfl, h 2 _ rfl⟩
        have hb := hal.trans hb9
        have HE := Lib.hid (HE.out.below (hb.mono HE.out.size))
        have HT := Lib.hid (HT.out.on hb)
        have HO := Lib.hid (HO.out.below hb)
        have HR := Lib.hid (HR.out.below hb)
        have HSr := Lib.hid (HSr.out.below hb)
        have HA := Lib.hid (HA.out.below hb)
        have HP := Lib.hid (HP.out.below hb)
        have HB := Lib.hid (bstep HB.out hb)
        clear hb hb9 hr8 hr3 hal hT1 hT2 hX2 hX3
        go_wp2_with (first
          | (refine wpList_store_mid rfl 23 _ _ rfl wc.heap.size 0 #[.int .i64 y0, .int .i64 y1, .int .i64 y2, .int .i64 y3, .int .i64 y4, .int .i64 y5, .int .i64 y6, .int .i64 y7] rfl rfl HT1.out (by kernel_rfl) (by simp [Value.oneCell']) ?_; rw [← HX2.out])
          | (refine wpList_store_mid rfl 41 _ _ rfl (wc.heap.size + 1) 0 #[.int .i64 fc, .bool fb, .int .i64 fq] rfl rfl HT2.out (by kernel_rfl) (by simp [Value.oneCell']) ?_; rw [← HX3.out])
          | fail)
        clear HT1 HT2 HX2 HX3
        generalize wc.heap.size = qb at *
        refine (parse_calls HE.out HT.out sa scap ws HSr.out (fun j hj => by have := HSz.out j hj; omega) (by omega)).mono ?_
        rintro e wd ⟨rfl, hb⟩
        have HE := Lib.hid (HE.out.below (hb.mono HE.out.size))
        have HT := Lib.hid (HT.out.on hb)
        have HO := Lib.hid (HO.out.below hb)
        have HR := Lib.hid (HR.out.below hb)
        have HSr := Lib.hid (HSr.out.below hb)
        have HA := Lib.hid (HA.out.below hb)
        have HP := Lib.hid (HP.out.below hb)
        have HQ := Lib.hid (HQ.out.below hb)
        have HF := Lib.hid (HF.out.below hb)
        have HB := Lib.hid (bstep HB.out hb)
        clear hb
        obtain ⟨z0, z1, z2, z3, z4, z5, z6, z7, hpo⟩ := parseO_op ws
        have HPa : Hid (∀ w', SRow w' sa ws → Calls Tryz.prog 18 #[.slice sa ws.length scap] w' fun e w'' => e = .returned (.tuple #[opV z0 z1 z2 z3 z4 z5 z6 z7, .int .i64 (parseC ws : Nat)]) ∧ Below w'.heap.size w' w'') := fun w' h => by
          have := refParse_calls sa scap ws h (fun j hj => by have := HSz.out j hj; omega) (by omega)
          rw [hpo] at this
          exact this
        rw [hpo]
        clear hpo
        have HIp : Hid (∀ w', Errs (List.range 21) w.heap.size p w' → Calls Tryz.prog 7 #[errN p (parseC ws), .int .i64 (parseC ws : Nat)] w' fun e w'' => e = .returned (.bool true) ∧ Below w'.heap.size w' w'') := fun w' h => is_parse h ws
        generalize errN p (parseC ws) = pe at *
        generalize parseC ws = pc at *
        have hb : Below wd.heap.size wd (wd.alloc (Obj.cells #[.int .i64 z0, .int .i64 z1, .int .i64 z2, .int .i64 z3, .int .i64 z4, .int .i64 z5, .int .i64 z6, .int .i64 z7] 23)) := (Below.refl _ _).alloc (Nat.le_refl _) _
        have HRr := Lib.hid (opAt_new wd z0 z1 z2 z3 z4 z5 z6 z7 23)
        have HE := Lib.hid (HE.out.below (hb.mono HE.out.size))
        have HT := Lib.hid (HT.out.on hb)
        have HO := Lib.hid (HO.out.below hb)
        have HR := Lib.hid (HR.out.below hb)
        have HSr := Lib.hid (HSr.out.below hb)
        have HA := Lib.hid (HA.out.below hb)
        have HP := Lib.hid (HP.out.below hb)
        have HQ := Lib.hid (HQ.out.below hb)
        have HF := Lib.hid (HF.out.below hb)
        have HB := Lib.hid (bstep HB.out hb)
        clear hb
        go_wp2_with fail
        generalize wd.alloc (Obj.cells #[.int .i64 z0, .int .i64 z1, .int .i64 z2, .int .i64 z3, .int .i64 z4, .int .i64 z5, .int .i64 z6, .int .i64 z7] 23) = we at *
        generalize wd.heap.size = rb at *
        refine (HPa.out _ HSr.out).mono ?_
        rintro e wf ⟨rfl, hb⟩
        have HE := Lib.hid (HE.out.below (hb.mono HE.out.size))
        have HT := Lib.hid (HT.out.on hb)
        have HO := Lib.hid (HO.out.below hb)
        have HR := Lib.hid (HR.out.below hb)
        have HSr := Lib.hid (HSr.out.below hb)
        have HA := Lib.hid (HA.out.below hb)
        have HP := Lib.hid (HP.out.below hb)
        have HQ := Lib.hid (HQ.out.below hb)
        have HF := Lib.hid (HF.out.below hb)
        have HRr := Lib.hid (HRr.out.below hb)
        have HB := Lib.hid (bstep HB.out hb)
        clear hb HPa
        have hb : Below wf.heap.size wf (wf.alloc (Obj.cells #[.int .i64 z0, .int .i64 z1, .int .i64 z2, .int .i64 z3, .int .i64 z4, .int .i64 z5, .int .i64 z6, .int .i64 z7] 23)) := (Below.refl _ _).alloc (Nat.le_refl _) _
        have HSs := Lib.hid (opAt_new wf z0 z1 z2 z3 z4 z5 z6 z7 23)
        have HE := Lib.hid (HE.out.below (hb.mono HE.out.size))
        have HT := Lib.hid (HT.out.on hb)
        have HO := Lib.hid (HO.out.below hb)
        have HR := Lib.hid (HR.out.below hb)
        have HSr := Lib.hid (HSr.out.below hb)
        have HA := Lib.hid (HA.out.below hb)
        have HP := Lib.hid (HP.out.below hb)
        have HQ := Lib.hid (HQ.out.below hb)
        have HF := Lib.hid (HF.out.below hb)
        have HRr := Lib.hid (HRr.out.below hb)
        have HB := Lib.hid (bstep HB.out hb)
        clear hb
        clear HSz
        have f0 := HF.out.c0; have f1 := HF.out.c1; have f2 := HF.out.c2
        go_wp2_with fail
        generalize wf.alloc (Obj.cells #[.int .i64 z0, .int .i64 z1, .int .i64 z2, .int .i64 z3, .int .i64 z4, .int .i64 z5, .int .i64 z6, .int .i64 z7] 23) = wg at *
        generalize wf.heap.size = sb at *
        refine (same_err HE.out HA.out HFf.out.1 HFf.out.2.1 HFf.out.2.2).mono ?_
        rintro e wh ⟨rfl, hb⟩
        clear f0 f1 f2
        have HE := Lib.hid (HE.out.below (hb.mono HE.out.size))
        have HT := Lib.hid (HT.out.on hb)
        have HO := Lib.hid (HO.out.below hb)
        have HR := Lib.hid (HR.out.below hb)
        have HSr := Lib.hid (HSr.out.below hb)
        have HA := Lib.hid (HA.out.below hb)
        have HP := Lib.hid (HP.out.below hb)
        have HQ := Lib.hid (HQ.out.below hb)
        have HF := Lib.hid (HF.out.below hb)
        have HRr := Lib.hid (HRr.out.below hb)
        have HSs := Lib.hid (HSs.out.below hb)
        have HB := Lib.hid (bstep HB.out hb)
        clear hb
        have x0 := HP.out.c0; have x1 := HP.out.c1; have x2 := HP.out.c2; have x3 := HP.out.c3; have x4 := HP.out.c4; have x5 := HP.out.c5; have x6 := HP.out.c6; have x7 := HP.out.c7
        have v0 := HQ.out.c0; have v1 := HQ.out.c1; have v2 := HQ.out.c2; have v3 := HQ.out.c3; have v4 := HQ.out.c4; have v5 := HQ.out.c5; have v6 := HQ.out.c6; have v7 := HQ.out.c7
        go_wp2_with fail
        refine (sameOp_calls y0 y1 y2 y3 y4 y5 y6 y7 y0 y1 y2 y3 y4 y5 y6 y7 _).mono ?_
        rintro e wi ⟨rfl, hb⟩
        rw [sameO_refl]
        clear x0 x1 x2 x3 x4 x5 x6 x7 v0 v1 v2 v3 v4 v5 v6 v7
        have HE := Lib.hid (HE.out.below (hb.mono HE.out.size))
        have HT := Lib.hid (HT.out.on hb)
        have HO := Lib.hid (HO.out.below hb)
        have HR := Lib.hid (HR.out.below hb)
        have HSr := Lib.hid (HSr.out.below hb)
        have HA := Lib.hid (HA.out.below hb)
        have HP := Lib.hid (HP.out.below hb)
        have HQ := Lib.hid (HQ.out.below hb)
        have HF := Lib.hid (HF.out.below hb)
        have HRr := Lib.hid (HRr.out.below hb)
        have HSs := Lib.hid (HSs.out.below hb)
        have HB := Lib.hid (bstep HB.out hb)
        clear hb
        go_wp2_with fail
        refine (HIp.out _ HE.out).mono ?_
        rintro e wj ⟨rfl, hb⟩
        have HE := Lib.hid (HE.out.below (hb.mono HE.out.size))
        have HT := Lib.hid (HT.out.on hb)
        have HO := Lib.hid (HO.out.below hb)
        have HR := Lib.hid (HR.out.below hb)
        have HSr := Lib.hid (HSr.out.below hb)
        have HA := Lib.hid (HA.out.below hb)
        have HP := Lib.hid (HP.out.below hb)
        have HQ := Lib.hid (HQ.out.below hb)
        have HF := Lib.hid (HF.out.below hb)
        have HRr := Lib.hid (HRr.out.below hb)
        have HSs := Lib.hid (HSs.out.below hb)
        have HB := Lib.hid (bstep HB.out hb)
        clear hb
        have x0 := HRr.out.c0; have x1 := HRr.out.c1; have x2 := HRr.out.c2; have x3 := HRr.out.c3; have x4 := HRr.out.c4; have x5 := HRr.out.c5; have x6 := HRr.out.c6; have x7 := HRr.out.c7
        have v0 := HSs.out.c0; have v1 := HSs.out.c1; have v2 := HSs.out.c2; have v3 := HSs.out.c3; have v4 := HSs.out.c4; have v5 := HSs.out.c5; have v6 := HSs.out.c6; have v7 := HSs.out.c7
        go_wp2_with fail
        refine (sameOp_calls z0 z1 z2 z3 z4 z5 z6 z7 z0 z1 z2 z3 z4 z5 z6 z7 _).mono ?_
        rintro e wk ⟨rfl, hb⟩
        rw [sameO_refl]
        clear x0 x1 x2 x3 x4 x5 x6 x7 v0 v1 v2 v3 v4 v5 v6 v7
        have HB := Lib.hid (bstep HB.out hb)
        go_wp2_with fail
        go_ret
        exact ⟨rfl, bbase HB0.out HB.out⟩
      · have hcb : (cv != 0) = true := by
          rw [HCV.out]
          have : codeV vc ≠ 0 := by unfold codeV; split <;> first | omega | simp_all
          simp; omega
        obtain rfl : u = .slice none 0 0 := HU1.out hv
        clear HU0 HU1 HVC HCV hv
        go_wp2_with fail
        refine (readOp_calls HE.out HT.out.op HR.out (by omega)).mono ?_
        rintro e wa ⟨⟨er, rfl, her⟩, hb⟩
        have HE := Lib.hid (HE.out.below (hb.mono HE.out.size))
        have HT := Lib.hid (HT.out.on hb)
        have HO := Lib.hid (HO.out.below hb)
        have HR := Lib.hid (HR.out.below hb)
        have HSr := Lib.hid (HSr.out.below hb)
        have HB := Lib.hid (bstep HB.out hb)
        have HA := Lib.hid her
        clear hb her
        obtain ⟨y0, y1, y2, y3, y4, y5, y6, y7, hro⟩ := readO_op l
        rw [hro]
        have HRO := Lib.hid hro
        clear hro
        have hb : Below wa.heap.size wa (wa.alloc (Obj.cells #[.int .i64 y0, .int .i64 y1, .int .i64 y2, .int .i64 y3, .int .i64 y4, .int .i64 y5, .int .i64 y6, .int .i64 y7] 23)) := (Below.refl _ _).alloc (Nat.le_refl _) _
        have HP := Lib.hid (opAt_new wa y0 y1 y2 y3 y4 y5 y6 y7 23)
        have HE := Lib.hid (HE.out.below (hb.mono HE.out.size))
        have HT := Lib.hid (HT.out.on hb)
        have HO := Lib.hid (HO.out.below hb)
        have HR := Lib.hid (HR.out.below hb)
        have HSr := Lib.hid (HSr.out.below hb)
        have HA := Lib.hid (HA.out.below hb)
        have HB := Lib.hid (bstep HB.out hb)
        clear hb
        go_wp2_with fail
        generalize wa.alloc (Obj.cells #[.int .i64 y0, .int .i64 y1, .int .i64 y2, .int .i64 y3, .int .i64 y4, .int .i64 y5, .int .i64 y6, .int .i64 y7] 23) = wb at *
        generalize wa.heap.size = pb at *
        refine (refRead_calls HR.out (by omega)).mono ?_
        rintro e wc ⟨⟨fc, fb, fq, rfl, hf1, hf2, hf3⟩, hb⟩
        rw [HRO.out]
        have HE := Lib.hid (HE.out.below (hb.mono HE.out.size))
        have HT := Lib.hid (HT.out.on hb)
        have HO := Lib.hid (HO.out.below hb)
        have HR := Lib.hid (HR.out.below hb)
        have HSr := Lib.hid (HSr.out.below hb)
        have HA := Lib.hid (HA.out.below hb)
        have HP := Lib.hid (HP.out.below hb)
        have HB := Lib.hid (bstep HB.out hb)
        have HFf := Lib.hid (And.intro hf1 (And.intro hf2 hf3))
        clear hb hf1 hf2 hf3
        have hal : Below wc.heap.size wc ((wc.alloc (Obj.cells #[.int .i64 0, .int .i64 0, .int .i64 0, .int .i64 0, .int .i64 0, .int .i64 0, .int .i64 0, .int .i64 0] 23)).alloc (Obj.cells #[.int .i64 0, .bool false, .int .i64 0] 41)) := by (repeat (first | exact Below.refl _ _ | assumption | refine Below.drew ?_ | refine below_many ?_ _ | refine Below.alloc ?_ (by first | (simp; done) | (simp; omega) | omega) _ | refine Below.setCell ?_ (by first | (simp; done) | (simp; omega) | omega) _))
        have hT1 := World.there.below (there_new wc #[.int .i64 0, .int .i64 0, .int .i64 0, .int .i64 0, .int .i64 0, .int .i64 0, .int .i64 0, .int .i64 0] 23 8 (by decide)) (show wc.heap.size < _ by simp) ((Below.refl _ _).alloc (Nat.le_refl _) (Obj.cells #[.int .i64 0, .bool false, .int .i64 0] 41))
        have hT2 := there_new (wc.alloc (Obj.cells #[.int .i64 0, .int .i64 0, .int .i64 0, .int .i64 0, .int .i64 0, .int .i64 0, .int .i64 0, .int .i64 0] 23)) #[.int .i64 0, .bool false, .int .i64 0] 41 3 (by decide)
        rw [show (wc.alloc (Obj.cells #[.int .i64 0, .int .i64 0, .int .i64 0, .int .i64 0, .int .i64 0, .int .i64 0, .int .i64 0, .int .i64 0] 23)).heap.size = wc.heap.size + 1 by simp] at hT2
        obtain ⟨X2, hX2⟩ : ∃ X2, X2 = ((wc.alloc (Obj.cells #[.int .i64 0, .int .i64 0, .int .i64 0, .int .i64 0, .int .i64 0, .int .i64 0, .int .i64 0, .int .i64 0] 23)).alloc (Obj.cells #[.int .i64 0, .bool false, .int .i64 0] 41)).setCells wc.heap.size 0 [.int .i64 y0, .int .i64 y1, .int .i64 y2, .int .i64 y3, .int .i64 y4, .int .i64 y5, .int .i64 y6, .int .i64 y7] := ⟨_, rfl⟩
        obtain ⟨X3, hX3⟩ : ∃ X3, X3 = X2.setCells (wc.heap.size + 1) 0 [.int .i64 fc, .bool fb, .int .i64 fq] := ⟨_, rfl⟩
        obtain ⟨hr8, hr3, hb9⟩ := two_stores (L8 := [.int .i64 y0, .int .i64 y1, .int .i64 y2, .int .i64 y3, .int .i64 y4, .int .i64 y5, .int .i64 y6, .int .i64 y7]) (L3 := [.int .i64 fc, .bool fb, .int .i64 fq]) hT1 hT2 (by simp) X3 (by rw [hX3, hX2])
        have HT1 := Lib.hid hT1
        have HT2 : Hid (X2.there (wc.heap.size + 1) 0 3) := by unfold Hid; rw [hX2]; exact World.there_setCells hT2 _ _ _
        have HX2 := Lib.hid hX2
        have HX3 := Lib.hid hX3
        have HQ : Hid (OpAt X3 wc.heap.size y0 y1 y2 y3 y4 y5 y6 y7) := by
          have h := fun j u hj => hr8 j u hj
          simp only [Nat.zero_add] at h
          exact ⟨h 0 _ rfl, h 1 _ rfl, h 2 _ rfl, h 3 _ rfl, h 4 _ rfl, h 5 _ rfl, h 6 _ rfl, h 7 _ rfl⟩
        have HF : Hid (FltAt X3 (wc.heap.size + 1) fc fb fq) := by
          have h := fun j u hj => hr3 j u hj
          simp only [Nat.zero_add] at h
          exact ⟨h 0 _ rfl, h 1 _ rfl, h 2 _ rfl⟩
        have hb := hal.trans hb9
        have HE := Lib.hid (HE.out.below (hb.mono HE.out.size))
        have HT := Lib.hid (HT.out.on hb)
        have HO := Lib.hid (HO.out.below hb)
        have HR := Lib.hid (HR.out.below hb)
        have HSr := Lib.hid (HSr.out.below hb)
        have HA := Lib.hid (HA.out.below hb)
        have HP := Lib.hid (HP.out.below hb)
        have HB := Lib.hid (bstep HB.out hb)
        clear hb hb9 hr8 hr3 hal hT1 hT2 hX2 hX3
        go_wp2_with (first
          | (refine wpList_store_mid rfl 23 _ _ rfl wc.heap.size 0 #[.int .i64 y0, .int .i64 y1, .int .i64 y2, .int .i64 y3, .int .i64 y4, .int .i64 y5, .int .i64 y6, .int .i64 y7] rfl rfl HT1.out (by kernel_rfl) (by simp [Value.oneCell']) ?_; rw [← HX2.out])
          | (refine wpList_store_mid rfl 41 _ _ rfl (wc.heap.size + 1) 0 #[.int .i64 fc, .bool fb, .int .i64 fq] rfl rfl HT2.out (by kernel_rfl) (by simp [Value.oneCell']) ?_; rw [← HX3.out])
          | fail)
        clear HT1 HT2 HX2 HX3
        generalize wc.heap.size = qb at *
        refine (parse_calls HE.out HT.out sa scap ws HSr.out (fun j hj => by have := HSz.out j hj; omega) (by omega)).mono ?_
        rintro e wd ⟨rfl, hb⟩
        have HE := Lib.hid (HE.out.below (hb.mono HE.out.size))
        have HT := Lib.hid (HT.out.on hb)
        have HO := Lib.hid (HO.out.below hb)
        have HR := Lib.hid (HR.out.below hb)
        have HSr := Lib.hid (HSr.out.below hb)
        have HA := Lib.hid (HA.out.below hb)
        have HP := Lib.hid (HP.out.below hb)
        have HQ := Lib.hid (HQ.out.below hb)
        have HF := Lib.hid (HF.out.below hb)
        have HB := Lib.hid (bstep HB.out hb)
        clear hb
        obtain ⟨z0, z1, z2, z3, z4, z5, z6, z7, hpo⟩ := parseO_op ws
        have HPa : Hid (∀ w', SRow w' sa ws → Calls Tryz.prog 18 #[.slice sa ws.length scap] w' fun e w'' => e = .returned (.tuple #[opV z0 z1 z2 z3 z4 z5 z6 z7, .int .i64 (parseC ws : Nat)]) ∧ Below w'.heap.size w' w'') := fun w' h => by
          have := refParse_calls sa scap ws h (fun j hj => by have := HSz.out j hj; omega) (by omega)
          rw [hpo] at this
          exact this
        rw [hpo]
        clear hpo
        have HIp : Hid (∀ w', Errs (List.range 21) w.heap.size p w' → Calls Tryz.prog 7 #[errN p (parseC ws), .int .i64 (parseC ws : Nat)] w' fun e w'' => e = .returned (.bool true) ∧ Below w'.heap.size w' w'') := fun w' h => is_parse h ws
        generalize errN p (parseC ws) = pe at *
        generalize parseC ws = pc at *
        have hb : Below wd.heap.size wd (wd.alloc (Obj.cells #[.int .i64 z0, .int .i64 z1, .int .i64 z2, .int .i64 z3, .int .i64 z4, .int .i64 z5, .int .i64 z6, .int .i64 z7] 23)) := (Below.refl _ _).alloc (Nat.le_refl _) _
        have HRr := Lib.hid (opAt_new wd z0 z1 z2 z3 z4 z5 z6 z7 23)
        have HE := Lib.hid (HE.out.below (hb.mono HE.out.size))
        have HT := Lib.hid (HT.out.on hb)
        have HO := Lib.hid (HO.out.below hb)
        have HR := Lib.hid (HR.out.below hb)
        have HSr := Lib.hid (HSr.out.below hb)
        have HA := Lib.hid (HA.out.below hb)
        have HP := Lib.hid (HP.out.below hb)
        have HQ := Lib.hid (HQ.out.below hb)
        have HF := Lib.hid (HF.out.below hb)
        have HB := Lib.hid (bstep HB.out hb)
        clear hb
        go_wp2_with fail
        generalize wd.alloc (Obj.cells #[.int .i64 z0, .int .i64 z1, .int .i64 z2, .int .i64 z3, .int .i64 z4, .int .i64 z5, .int .i64 z6, .int .i64 z7] 23) = we at *
        generalize wd.heap.size = rb at *
        refine (HPa.out _ HSr.out).mono ?_
        rintro e wf ⟨rfl, hb⟩
        have HE := Lib.hid (HE.out.below (hb.mono HE.out.size))
        have HT := Lib.hid (HT.out.on hb)
        have HO := Lib.hid (HO.out.below hb)
        have HR := Lib.hid (HR.out.below hb)
        have HSr := Lib.hid (HSr.out.below hb)
        have HA := Lib.hid (HA.out.below hb)
        have HP := Lib.hid (HP.out.below hb)
        have HQ := Lib.hid (HQ.out.below hb)
        have HF := Lib.hid (HF.out.below hb)
        have HRr := Lib.hid (HRr.out.below hb)
        have HB := Lib.hid (bstep HB.out hb)
        clear hb HPa
        have hb : Below wf.heap.size wf (wf.alloc (Obj.cells #[.int .i64 z0, .int .i64 z1, .int .i64 z2, .int .i64 z3, .int .i64 z4, .int .i64 z5, .int .i64 z6, .int .i64 z7] 23)) := (Below.refl _ _).alloc (Nat.le_refl _) _
        have HSs := Lib.hid (opAt_new wf z0 z1 z2 z3 z4 z5 z6 z7 23)
        have HE := Lib.hid (HE.out.below (hb.mono HE.out.size))
        have HT := Lib.hid (HT.out.on hb)
        have HO := Lib.hid (HO.out.below hb)
        have HR := Lib.hid (HR.out.below hb)
        have HSr := Lib.hid (HSr.out.below hb)
        have HA := Lib.hid (HA.out.below hb)
        have HP := Lib.hid (HP.out.below hb)
        have HQ := Lib.hid (HQ.out.below hb)
        have HF := Lib.hid (HF.out.below hb)
        have HRr := Lib.hid (HRr.out.below hb)
        have HB := Lib.hid (bstep HB.out hb)
        clear hb
        clear HSz
        have f0 := HF.out.c0; have f1 := HF.out.c1; have f2 := HF.out.c2
        go_wp2_with fail
        generalize wf.alloc (Obj.cells #[.int .i64 z0, .int .i64 z1, .int .i64 z2, .int .i64 z3, .int .i64 z4, .int .i64 z5, .int .i64 z6, .int .i64 z7] 23) = wg at *
        generalize wf.heap.size = sb at *
        refine (same_err HE.out HA.out HFf.out.1 HFf.out.2.1 HFf.out.2.2).mono ?_
        rintro e wh ⟨rfl, hb⟩
        clear f0 f1 f2
        have HE := Lib.hid (HE.out.below (hb.mono HE.out.size))
        have HT := Lib.hid (HT.out.on hb)
        have HO := Lib.hid (HO.out.below hb)
        have HR := Lib.hid (HR.out.below hb)
        have HSr := Lib.hid (HSr.out.below hb)
        have HA := Lib.hid (HA.out.below hb)
        have HP := Lib.hid (HP.out.below hb)
        have HQ := Lib.hid (HQ.out.below hb)
        have HF := Lib.hid (HF.out.below hb)
        have HRr := Lib.hid (HRr.out.below hb)
        have HSs := Lib.hid (HSs.out.below hb)
        have HB := Lib.hid (bstep HB.out hb)
        clear hb
        have x0 := HP.out.c0; have x1 := HP.out.c1; have x2 := HP.out.c2; have x3 := HP.out.c3; have x4 := HP.out.c4; have x5 := HP.out.c5; have x6 := HP.out.c6; have x7 := HP.out.c7
        have v0 := HQ.out.c0; have v1 := HQ.out.c1; have v2 := HQ.out.c2; have v3 := HQ.out.c3; have v4 := HQ.out.c4; have v5 := HQ.out.c5; have v6 := HQ.out.c6; have v7 := HQ.out.c7
        go_wp2_with fail
        refine (sameOp_calls y0 y1 y2 y3 y4 y5 y6 y7 y0 y1 y2 y3 y4 y5 y6 y7 _).mono ?_
        rintro e wi ⟨rfl, hb⟩
        rw [sameO_refl]
        clear x0 x1 x2 x3 x4 x5 x6 x7 v0 v1 v2 v3 v4 v5 v6 v7
        have HE := Lib.hid (HE.out.below (hb.mono HE.out.size))
        have HT := Lib.hid (HT.out.on hb)
        have HO := Lib.hid (HO.out.below hb)
        have HR := Lib.hid (HR.out.below hb)
        have HSr := Lib.hid (HSr.out.below hb)
        have HA := Lib.hid (HA.out.below hb)
        have HP := Lib.hid (HP.out.below hb)
        have HQ := Lib.hid (HQ.out.below hb)
        have HF := Lib.hid (HF.out.below hb)
        have HRr := Lib.hid (HRr.out.below hb)
        have HSs := Lib.hid (HSs.out.below hb)
        have HB := Lib.hid (bstep HB.out hb)
        clear hb
        go_wp2_with fail
        refine (HIp.out _ HE.out).mono ?_
        rintro e wj ⟨rfl, hb⟩
        have HE := Lib.hid (HE.out.below (hb.mono HE.out.size))
        have HT := Lib.hid (HT.out.on hb)
        have HO := Lib.hid (HO.out.below hb)
        have HR := Lib.hid (HR.out.below hb)
        have HSr := Lib.hid (HSr.out.below hb)
        have HA := Lib.hid (HA.out.below hb)
        have HP := Lib.hid (HP.out.below hb)
        have HQ := Lib.hid (HQ.out.below hb)
        have HF := Lib.hid (HF.out.below hb)
        have HRr := Lib.hid (HRr.out.below hb)
        have HSs := Lib.hid (HSs.out.below hb)
        have HB := Lib.hid (bstep HB.out hb)
        clear hb
        have x0 := HRr.out.c0; have x1 := HRr.out.c1; have x2 := HRr.out.c2; have x3 := HRr.out.c3; have x4 := HRr.out.c4; have x5 := HRr.out.c5; have x6 := HRr.out.c6; have x7 := HRr.out.c7
        have v0 := HSs.out.c0; have v1 := HSs.out.c1; have v2 := HSs.out.c2; have v3 := HSs.out.c3; have v4 := HSs.out.c4; have v5 := HSs.out.c5; have v6 := HSs.out.c6; have v7 := HSs.out.c7
        go_wp2_with fail
        refine (sameOp_calls z0 z1 z2 z3 z4 z5 z6 z7 z0 z1 z2 z3 z4 z5 z6 z7 _).mono ?_
        rintro e wk ⟨rfl, hb⟩
        rw [sameO_refl]
        clear x0 x1 x2 x3 x4 x5 x6 x7 v0 v1 v2 v3 v4 v5 v6 v7
        have HB := Lib.hid (bstep HB.out hb)
        go_wp2_with fail
        go_ret
        exact ⟨rfl, bbase HB0.out HB.out⟩
end Go.Proofs.YtchbkceconlbkaaGreatDoor
