/- pledgeref26.Read: the eight numbers. (Written by gen_refrd26.py.) -/
import Derived.Test.YtchbkceconlbkaaGreatDoorRefRead
import Derived.Test.YtchbkceconlbkaaGreatDoorReadDef
import Derived.Test.YtchbkceconlbkaaGreatDoorRefRdNum
import Derived.Test.YtchbkceconlbkaaGreatDoorPlayKit
import Derived.Test.YtchbkceconlbkaaGreatDoorRefValid
import Derived.Deep.RegionHeld3
namespace Go.Proofs.YtchbkceconlbkaaGreatDoor
open Go Go.RowKit
set_option linter.unusedSimpArgs false
set_option linter.unusedVariables false

set_option maxHeartbeats 4000000 in
set_option maxRecDepth 100000 in
theorem refRead_long {w : World} {v : Value} {l : List UInt8} (hR : RdB w v (bytesI l)) (hl : 256 < l.length) (hl2 : l.length ≤ 140737488355328) :
    Calls Tryz.prog 16 #[v] w fun e w' => e = .returned (.tuple #[opV 0 0 0 0 0 0 0 0, faultV 105 false 0]) ∧ Below w.heap.size w w' := by
  have hlen : (bytesI l).length = l.length := by simp [bytesI]
  obtain ⟨va, vc, rfl, hvc, hvm⟩ := hR.len
  rw [hlen]
  have hd : decide ((l.length : Int) > 256) = true := decide_eq_true (by omega)
  have HBr := Lib.hid (fun w' => bare_calls 105 w')
  have HB : Hid (Below w.heap.size w ((w.alloc (Obj.cells #[.int .i64 0, .int .i64 0, .int .i64 0, .int .i64 0, .int .i64 0, .int .i64 0, .int .i64 0, .int .i64 0] 23)).alloc (Obj.cells #[.int .i64 0, .bool false, .int .i64 0] 41))) := by unfold Hid; (repeat (first | exact Below.refl _ _ | assumption | refine Below.drew ?_ | refine below_many ?_ _ | refine Below.alloc ?_ (by first | (simp; done) | (simp; omega) | omega) _ | refine Below.setCell ?_ (by first | (simp; done) | (simp; omega) | omega) _))
  have hO := (opAt_new w 0 0 0 0 0 0 0 0 23).below ((Below.refl _ _).alloc (Nat.le_refl _) (Obj.cells #[.int .i64 0, .bool false, .int .i64 0] 41))
  have hT1 := (there_new w #[.int .i64 0, .int .i64 0, .int .i64 0, .int .i64 0, .int .i64 0, .int .i64 0, .int .i64 0, .int .i64 0] 23 8 (by decide))
  have hT1 := World.there.below hT1 (show w.heap.size < _ by simp) ((Below.refl _ _).alloc (Nat.le_refl _) (Obj.cells #[.int .i64 0, .bool false, .int .i64 0] 41))
  have hT2 := there_new (w.alloc (Obj.cells #[.int .i64 0, .int .i64 0, .int .i64 0, .int .i64 0, .int .i64 0, .int .i64 0, .int .i64 0, .int .i64 0] 23)) #[.int .i64 0, .bool false, .int .i64 0] 41 3 (by decide)
  rw [show (w.alloc (Obj.cells #[.int .i64 0, .int .i64 0, .int .i64 0, .int .i64 0, .int .i64 0, .int .i64 0, .int .i64 0, .int .i64 0] 23)).heap.size = w.heap.size + 1 by simp] at hT2
  have hs : w.heap.size + 1 < ((w.alloc (Obj.cells #[.int .i64 0, .int .i64 0, .int .i64 0, .int .i64 0, .int .i64 0, .int .i64 0, .int .i64 0, .int .i64 0] 23)).alloc (Obj.cells #[.int .i64 0, .bool false, .int .i64 0] 41)).heap.size := by simp
  clear hO hR hvc hvm hlen
  go_enter Tryz.func16, Tryz.ntmps16
  go_upto_region 1 with fail
  generalize (w.alloc (Obj.cells #[.int .i64 0, .int .i64 0, .int .i64 0, .int .i64 0, .int .i64 0, .int .i64 0, .int .i64 0, .int .i64 0] 23)).alloc (Obj.cells #[.int .i64 0, .bool false, .int .i64 0] 41) = W1 at *
  go_wp2_with fail
  refine (HBr.out _).mono ?_
  rintro e w2 ⟨rfl, hb⟩
  have HT1 := Lib.hid (World.there.below hT1 (by omega) hb)
  have HT2 := Lib.hid (World.there.below hT2 hs hb)
  have HB2 := Lib.hid (bbase HB.out hb)
  have hs2 : w.heap.size + 1 < w2.heap.size := by have := hb.size; omega
  obtain ⟨W2, hW2⟩ : ∃ W2, W2 = w2.setCells w.heap.size 0 zero8 := ⟨_, rfl⟩
  have hk2 : Keep (fun x => x = w.heap.size) w2 W2 := by rw [hW2]; exact keep_setCells _ _ _ _
  have hr2 : W2.rangeAt w.heap.size 0 zero8 := by rw [hW2]; exact World.rangeAt_setCells_same _ _ _ _ HT1.out
  have hT3 : W2.there (w.heap.size + 1) 0 3 := by rw [hW2]; exact World.there_setCells HT2.out _ _ _
  obtain ⟨W3, hW3⟩ : ∃ W3, W3 = W2.setCells (w.heap.size + 1) 0 [.int .i64 105, .bool false, .int .i64 0] := ⟨_, rfl⟩
  have hk3 : Keep (fun x => x = w.heap.size + 1) W2 W3 := by rw [hW3]; exact keep_setCells _ _ _ _
  have hr3 : W3.rangeAt (w.heap.size + 1) 0 [.int .i64 105, .bool false, .int .i64 0] := by rw [hW3]; exact World.rangeAt_setCells_same _ _ _ _ hT3
  have hl2 : w.heap.size < W2.heap.size := by have := hk2.size; omega
  have hr2' : ∀ (j : Nat) (u : Value), zero8[j]? = some u → W3.cell? ⟨w.heap.size, j, none⟩ = some u := fun j u hj => by
    have h := hr2 j u hj
    rw [Nat.zero_add] at h
    exact (hk3.cell (x := ⟨w.heap.size, j, none⟩) hl2 (show ¬ w.heap.size = w.heap.size + 1 by omega)).trans h
  have hB3 : Below w.heap.size w W3 := HB2.out.trans ((hk2.below (by omega) (fun j hj e => by omega)).trans (hk3.below (by omega) (fun j hj e => by omega)))
  have HW2 := Lib.hid hW2
  have HW3 := Lib.hid hW3
  have HT3 := Lib.hid hT3
  clear hb hT1 hT2 hW2 hW3 hk2 hk3 hr2 hT3 HB HBr
  go_wp2_with (first
    | (refine wpList_store_mid rfl 23 _ _ rfl w.heap.size 0 #[.int .i64 0, .int .i64 0, .int .i64 0, .int .i64 0, .int .i64 0, .int .i64 0, .int .i64 0, .int .i64 0] rfl rfl HT1.out (by kernel_rfl) (by simp [Value.oneCell']) ?_; rw [← HW2.out])
    | (refine wpList_store_mid rfl 41 _ _ rfl (w.heap.size + 1) 0 #[.int .i64 105, .bool false, .int .i64 0] rfl rfl HT3.out (by kernel_rfl) (by simp [Value.oneCell']) ?_; rw [← HW3.out])
    | fail)
  have c0 := hr2' 0 _ rfl; have c1 := hr2' 1 _ rfl; have c2 := hr2' 2 _ rfl; have c3 := hr2' 3 _ rfl; have c4 := hr2' 4 _ rfl; have c5 := hr2' 5 _ rfl; have c6 := hr2' 6 _ rfl; have c7 := hr2' 7 _ rfl
  have f0 := hr3 0 _ rfl; have f1 := hr3 1 _ rfl; have f2 := hr3 2 _ rfl
  exact bodyPost_ret (v := .tuple #[opV 0 0 0 0 0 0 0 0, faultV 105 false 0]) (by simp [results, Tryz.results16, go_sem, c0, c1, c2, c3, c4, c5, c6, c7, f0, f1, f2]) rfl ⟨rfl, hB3⟩

theorem RefRdr.keepO {w w' : World} {rb : Nat} {v : Value} {l : List UInt8} {st : Nat × Option (Nat × Nat)} {S : Nat → Prop} (h : RefRdr w rb v l st) (k : Keep S w w') (h1 : ¬ S rb) (h2 : ∀ g, v.ownBlock = some g → ¬ S g) : RefRdr w' rb v l st := by
  refine ⟨Nat.lt_of_lt_of_le h.lt k.size, (k.cell (x := ⟨rb, 0, none⟩) h.lt h1).trans h.c0, ?_, h.ne, (k.cell (x := ⟨rb, 1, none⟩) h.lt h1).trans h.c1, ?_, fun j => (k.frozen (x := ⟨rb, j, none⟩) h.lt h1).trans (h.free j)⟩
  · rcases h.rd with e | ⟨g, off, cap, e, q1, q2, q3, q4⟩
    · exact .inl e
    · exact .inr ⟨g, off, cap, e, q1, q2, Nat.lt_of_lt_of_le q3 k.size, fun i hi => (k.cell (x := ⟨g, off + i, none⟩) q3 (h2 g (by rw [e]; rfl))).trans (q4 i hi)⟩
  · rcases h.bad with ⟨e, q2, q3, q4⟩ | ⟨c, q, e, ha, hb, q2, q3, q4⟩
    · exact .inl ⟨e, (k.cell (x := ⟨rb, 2, none⟩) h.lt h1).trans q2, (k.cell (x := ⟨rb, 3, none⟩) h.lt h1).trans q3, (k.cell (x := ⟨rb, 4, none⟩) h.lt h1).trans q4⟩
    · exact .inr ⟨c, q, e, ha, hb, (k.cell (x := ⟨rb, 2, none⟩) h.lt h1).trans q2, (k.cell (x := ⟨rb, 3, none⟩) h.lt h1).trans q3, (k.cell (x := ⟨rb, 4, none⟩) h.lt h1).trans q4⟩
/-- The numbers that are read so far, the others nought. -/
def numsUpto (l : List UInt8) (q j : Nat) : Int := if j < q then (readQ l q).1.getD j 0 else 0
theorem numsUpto_succ (l : List UInt8) (q j : Nat) : numsUpto l (q + 1) j = if j = q then (numStep l 0 4611686018427387904 (readQ l q).2).1 else numsUpto l q j := by
  unfold numsUpto
  rw [readQ_fst]
  have hl := readQ_length l q
  by_cases h1 : j = q
  · subst h1
    rw [if_pos (by omega), if_pos rfl, List.getD, List.getElem?_append_right (by omega), hl]
    simp
  · rw [if_neg h1]
    by_cases h2 : j < q
    · rw [if_pos (by omega), if_pos h2, List.getD, List.getElem?_append_left (by omega)]
      rfl
    · rw [if_neg (by omega), if_neg h2]
def RdPost (l : List UInt8) (e : Ending) : Prop := ∃ c b q, e = .returned (.tuple #[readO l, faultV c b q]) ∧ readF l = (Int.toNat c, b, Int.toNat q) ∧ 0 ≤ c ∧ 0 ≤ q
theorem rdPost {l : List UInt8} {o : Value} (c : Int) (b : Bool) (q : Int) (hO : readO l = o) (hF : readF l = (Int.toNat c, b, Int.toNat q)) (hc : 0 ≤ c) (hq : 0 ≤ q) : RdPost l (.returned (.tuple #[o, faultV c b q])) :=
  ⟨c, b, q, by rw [hO], hF, hc, hq⟩
set_option maxHeartbeats 8000000 in
set_option maxRecDepth 100000 in
theorem refRead_short {w : World} {v : Value} {l : List UInt8} (hR : RdB w v (bytesI l)) (hl : l.length ≤ 256) :
    Calls Tryz.prog 16 #[v] w fun e w' => RdPost l e ∧ Below w.heap.size w w' := by
  have hlen : (bytesI l).length = l.length := by simp [bytesI]
  obtain ⟨va, vc, rfl, hvc, hvm⟩ := hR.len
  have hR' := hR
  rw [hlen] at hR' ⊢
  have hd : decide ((l.length : Int) > 256) = false := decide_eq_false (by omega)
  have hvb : ∀ g, (Value.slice va l.length vc).ownBlock = some g → g < w.heap.size := fun g hg => by
    rcases hR' with ⟨e, _⟩ | ⟨g', off, cap, e, q1, q2, q3, q4⟩
    · rw [e] at hg; simp [Value.ownBlock] at hg
    · rw [e] at hg
      simp only [Value.ownBlock, Option.some.injEq] at hg
      omega
  have HRd := Lib.hid hR'
  have HB : Hid (Below w.heap.size w ((w.alloc (Obj.cells #[.int .i64 0, .int .i64 0, .int .i64 0, .int .i64 0, .int .i64 0, .int .i64 0, .int .i64 0, .int .i64 0] 23)).alloc (Obj.cells #[.int .i64 0, .bool false, .int .i64 0] 41))) := by unfold Hid; (repeat (first | exact Below.refl _ _ | assumption | refine Below.drew ?_ | refine below_many ?_ _ | refine Below.alloc ?_ (by first | (simp; done) | (simp; omega) | omega) _ | refine Below.setCell ?_ (by first | (simp; done) | (simp; omega) | omega) _))
  have hs : ((w.alloc (Obj.cells #[.int .i64 0, .int .i64 0, .int .i64 0, .int .i64 0, .int .i64 0, .int .i64 0, .int .i64 0, .int .i64 0] 23)).alloc (Obj.cells #[.int .i64 0, .bool false, .int .i64 0] 41)).heap.size = w.heap.size + 2 := by simp
  have HVb := Lib.hid hvb
  have HT1 := Lib.hid (World.there.below (there_new w #[.int .i64 0, .int .i64 0, .int .i64 0, .int .i64 0, .int .i64 0, .int .i64 0, .int .i64 0, .int .i64 0] 23 8 (by decide)) (show w.heap.size < _ by simp) ((Below.refl _ _).alloc (Nat.le_refl _) (Obj.cells #[.int .i64 0, .bool false, .int .i64 0] 41)))
  have hT2 := there_new (w.alloc (Obj.cells #[.int .i64 0, .int .i64 0, .int .i64 0, .int .i64 0, .int .i64 0, .int .i64 0, .int .i64 0, .int .i64 0] 23)) #[.int .i64 0, .bool false, .int .i64 0] 41 3 (by decide)
  rw [show (w.alloc (Obj.cells #[.int .i64 0, .int .i64 0, .int .i64 0, .int .i64 0, .int .i64 0, .int .i64 0, .int .i64 0, .int .i64 0] 23)).heap.size = w.heap.size + 1 by simp] at hT2
  have HT2 := Lib.hid hT2
  clear hT2
  clear hR hR' hvc hvm hvb
  go_enter Tryz.func16, Tryz.ntmps16
  go_upto_region 1 with fail
  generalize ((w.alloc (Obj.cells #[.int .i64 0, .int .i64 0, .int .i64 0, .int .i64 0, .int .i64 0, .int .i64 0, .int .i64 0, .int .i64 0] 23)).alloc (Obj.cells #[.int .i64 0, .bool false, .int .i64 0] 41)) = W1 at *
  have hb1 : Below W1.heap.size W1 (W1.alloc (Obj.cells #[.slice va l.length vc, .int .i64 0, .int .i64 0, .bool false, .int .i64 0] 74)) := (Below.refl _ _).alloc (Nat.le_refl _) _
  have hsA : (W1.alloc (Obj.cells #[.slice va l.length vc, .int .i64 0, .int .i64 0, .bool false, .int .i64 0] 74)).heap.size = w.heap.size + 3 := by simp [hs]
  have hb2 : Below (W1.alloc (Obj.cells #[.slice va l.length vc, .int .i64 0, .int .i64 0, .bool false, .int .i64 0] 74)).heap.size (W1.alloc (Obj.cells #[.slice va l.length vc, .int .i64 0, .int .i64 0, .bool false, .int .i64 0] 74)) ((W1.alloc (Obj.cells #[.slice va l.length vc, .int .i64 0, .int .i64 0, .bool false, .int .i64 0] 74)).alloc (Obj.cells #[.int .i64 0, .int .i64 0, .int .i64 0, .int .i64 0, .int .i64 0, .int .i64 0, .int .i64 0, .int .i64 0] 75)) := (Below.refl _ _).alloc (Nat.le_refl _) _
  have hAr := arr_new (W1.alloc (Obj.cells #[.slice va l.length vc, .int .i64 0, .int .i64 0, .bool false, .int .i64 0] 74)) #[.int .i64 0, .int .i64 0, .int .i64 0, .int .i64 0, .int .i64 0, .int .i64 0, .int .i64 0, .int .i64 0] 75 8 (fun j => .int .i64 (numsUpto l 0 j)) (by
    have e : (fun j => Value.int .i64 (numsUpto l 0 j)) = fun _ => Value.int .i64 0 := funext fun j => by unfold numsUpto; rw [if_neg (by omega)]
    rw [e]; rfl)
  rw [hsA] at hAr
  have hlt : w.heap.size + 2 < (W1.alloc (Obj.cells #[.slice va l.length vc, .int .i64 0, .int .i64 0, .bool false, .int .i64 0] 74)).heap.size := by omega
  have hfA : ∀ j, (W1.alloc (Obj.cells #[.slice va l.length vc, .int .i64 0, .int .i64 0, .bool false, .int .i64 0] 74)).frozen? ⟨w.heap.size + 2, j, none⟩ = false := fun j => by rw [← hs]; exact frozen_newB _ _ _ _
  have hcA : ∀ j, (W1.alloc (Obj.cells #[.slice va l.length vc, .int .i64 0, .int .i64 0, .bool false, .int .i64 0] 74)).cell? ⟨w.heap.size + 2, j, none⟩ = (#[.slice va l.length vc, .int .i64 0, .int .i64 0, .bool false, .int .i64 0] : Array Value)[j]? := fun j => by rw [← hs]; exact cell_new _ _ _ _
  have HRR : Hid (RefRdr ((W1.alloc (Obj.cells #[.slice va l.length vc, .int .i64 0, .int .i64 0, .bool false, .int .i64 0] 74)).alloc (Obj.cells #[.int .i64 0, .int .i64 0, .int .i64 0, .int .i64 0, .int .i64 0, .int .i64 0, .int .i64 0, .int .i64 0] 75)) (w.heap.size + 2) (.slice va l.length vc) l (readQ l 0).2) := by
    have h0 : RefRdr (W1.alloc (Obj.cells #[.slice va l.length vc, .int .i64 0, .int .i64 0, .bool false, .int .i64 0] 74)) (w.heap.size + 2) (.slice va l.length vc) l (readQ l 0).2 :=
      ⟨hlt, hcA 0, (HRd.out.below HB.out).below hb1, fun g hg => by have := HVb.out g hg; omega, hcA 1, .inl ⟨rfl, hcA 2, hcA 3, hcA 4⟩, hfA⟩
    exact h0.below hb2
  have HAr := Lib.hid hAr
  have HB3 := Lib.hid (bbase (bbase HB.out hb1) hb2)
  have HT1 := Lib.hid (World.there.below (World.there.below HT1.out (by omega) hb1) (by omega) hb2)
  have HT2 := Lib.hid (World.there.below (World.there.below HT2.out (by omega) hb1) (by omega) hb2)
  have hs3 : ((W1.alloc (Obj.cells #[.slice va l.length vc, .int .i64 0, .int .i64 0, .bool false, .int .i64 0] 74)).alloc (Obj.cells #[.int .i64 0, .int .i64 0, .int .i64 0, .int .i64 0, .int .i64 0, .int .i64 0, .int .i64 0, .int .i64 0] 75)).heap.size = w.heap.size + 4 := by simp [hs]
  clear hb1 hb2 hAr hlt hfA hcA hsA
  go_wp2_with fail
  generalize ((W1.alloc (Obj.cells #[.slice va l.length vc, .int .i64 0, .int .i64 0, .bool false, .int .i64 0] 74)).alloc (Obj.cells #[.int .i64 0, .int .i64 0, .int .i64 0, .int .i64 0, .int .i64 0, .int .i64 0, .int .i64 0, .int .i64 0] 75)) = W3 at *
  have HK0 : Hid (Keep (fun x => x = w.heap.size + 2 ∨ x = w.heap.size + 3) W3 W3) := Keep.refl _ _
  clear HB HRd
  go_loopw [6] (fun i wr => ∃ q : Nat, q ≤ 8 ∧ i = .int .i64 q ∧ Hid (RefRdr wr (w.heap.size + 2) (.slice va l.length vc) l (readQ l q).2) ∧ Hid (Arr wr (w.heap.size + 3) 8 (fun j => .int .i64 (numsUpto l q j))) ∧ Hid (Keep (fun x => x = w.heap.size + 2 ∨ x = w.heap.size + 3) W3 wr)) (fun i _ => 8 - (intOf i).toNat)
  case atStart => exact ⟨0, by omega, rfl, HRR, HAr, HK0⟩
  case round =>
    obtain ⟨q, hq, rfl, hR, hA, hK⟩ := hrel
    clear HRR HAr HK0
    by_cases hq8 : q < 8
    · have HNum := Lib.hid (refNum_calls hR.out (readQ_ok l q) (by omega) 0 4611686018427387904)
      have HSn := Lib.hid (readQ_snd l q)
      have HSu := Lib.hid (numsUpto_succ l q)
      generalize (numStep l 0 4611686018427387904 (readQ l q).2).1 = z at HNum HSu
      generalize (numStep l 0 4611686018427387904 (readQ l q).2).2 = st' at HNum HSn
      go_wp2_with fail
      refine HNum.out.mono ?_
      rintro e w5 ⟨rfl, hr5, hk5⟩
      have HA5 := Lib.hid (hA.out.keep (by decide) hk5 (show ¬ w.heap.size + 3 = w.heap.size + 2 by omega))
      have hc5 := HA5.out.cell q hq8
      have hf5 := HA5.out.free q hq8
      have HA6 : Hid (Arr (w5.setCell ⟨w.heap.size + 3, q, none⟩ (.int .i64 z)) (w.heap.size + 3) 8 (fun j => .int .i64 (numsUpto l (q + 1) j))) := (HA5.out.set hq8 (.int .i64 z)).congr (fun j hj => by
        rw [HSu.out j]
        split <;> rfl)
      have hk6 := keep_setCell w5 ⟨w.heap.size + 3, q, none⟩ (.int .i64 z)
      have HR6 : Hid (RefRdr (w5.setCell ⟨w.heap.size + 3, q, none⟩ (.int .i64 z)) (w.heap.size + 2) (.slice va l.length vc) l (readQ l (q + 1)).2) := by
        rw [HSn.out]
        exact hr5.keepO hk6 (show ¬ w.heap.size + 2 = w.heap.size + 3 by omega) (fun g hg e => by have := HVb.out g hg; have e' : g = w.heap.size + 3 := e; omega)
      have HK6 : Hid (Keep (fun x => x = w.heap.size + 2 ∨ x = w.heap.size + 3) W3 (w5.setCell ⟨w.heap.size + 3, q, none⟩ (.int .i64 z))) := by
        have k5 : Keep (fun x => x = w.heap.size + 2 ∨ x = w.heap.size + 3) wr w5 := ⟨hk5.os, hk5.tape, hk5.output, hk5.size, fun g hg hs => hk5.block g hg (fun e => hs (.inl e))⟩
        have k6 : Keep (fun x => x = w.heap.size + 2 ∨ x = w.heap.size + 3) w5 (w5.setCell ⟨w.heap.size + 3, q, none⟩ (.int .i64 z)) := ⟨hk6.os, hk6.tape, hk6.output, hk6.size, fun g hg hs => hk6.block g hg (fun e => hs (.inr e))⟩
        exact (hK.out.trans k5).trans k6
      have hi0 : (0 : Int) ≤ (q : Int) := by omega
      have hi1 : (q : Int) < 8 := by omega
      have hs5 := HA5.out.lt (by decide)
      clear hr5 hk5 hk6 hR hA hK HNum HSn HSu HA5
      go_wp2_with fail
      go_roundw
      case rel => exact ⟨q + 1, by omega, by go_num, HR6, HA6, HK6⟩
      case measure => simp [intOf]; omega
    · obtain rfl : q = 8 := by omega
      have HTA : Hid (wr.there w.heap.size 0 8) := there_keepK HT1.out (by omega) hK.out (fun e => by rcases e with e | e <;> omega)
      have HTB : Hid (wr.there (w.heap.size + 1) 0 3) := there_keepK HT2.out (by omega) hK.out (fun e => by rcases e with e | e <;> omega)
      have HBr : Hid (Below w.heap.size w wr) := HB3.out.trans (hK.out.below (by omega) (fun j hj e => by rcases e with e | e <;> omega))
      have hsr : w.heap.size + 4 ≤ wr.heap.size := by have := hK.out.size; omega
      have hst : (readQ l 8).2.1 ≤ l.length := readQ_ok l 8
      clear HT1 HT2 HB3 hs3 hK
      cases herr : (readQ l 8).2.2 with
      | some cq =>
        obtain ⟨c, pq⟩ := cq
        have HF := Lib.hid (readF_err hl herr)
        rcases hR.out.bad with ⟨h, _⟩ | ⟨c', q', h, hca, hcb, g2, g3, g4⟩
        · rw [herr] at h; cases h
        rw [herr] at h
        obtain ⟨rfl, rfl⟩ : c = c' ∧ pq = q' := by simpa using h
        have HO0 : Hid (readO l = opV 0 0 0 0 0 0 0 0) := by unfold Hid readO; rw [HF.out]; exact if_neg (by show ¬ c = 0; omega)
        have HOk : Hid (Calls Tryz.prog 42 #[.pointer (some ⟨w.heap.size + 2, 0, none⟩)] wr fun e w' => e = .returned (.bool false) ∧ wr = w') := by
          have h := refOk_calls hR.out
          rw [herr] at h
          exact h
        clear h herr hst hR hA hca hcb
        go_wp2_with fail
        refine HOk.out.mono ?_
        rintro e _ ⟨rfl, rfl⟩
        go_wp2_with fail
        refine HOk.out.mono ?_
        rintro e _ ⟨rfl, rfl⟩
        clear HOk
        go_upto_region 12 with fail
        have hS0 : (fun w1 => w1.cell? ⟨w.heap.size + 2, 2, none⟩ = some (.int .i64 (c : Nat)) ∧ w1.cell? ⟨w.heap.size + 2, 3, none⟩ = some (.bool true) ∧ w1.cell? ⟨w.heap.size + 2, 4, none⟩ = some (.int .i64 (pq : Nat))) wr := ⟨g2, g3, g4⟩
        clear g2 g3 g4
        obtain ⟨W7, hW7⟩ : ∃ W7, W7 = wr.drew.setCells w.heap.size 0 [.int .i64 0, .int .i64 0, .int .i64 0, .int .i64 0, .int .i64 0, .int .i64 0, .int .i64 0, .int .i64 0] := ⟨_, rfl⟩
        obtain ⟨W8, hW8⟩ : ∃ W8, W8 = W7.setCells (w.heap.size + 1) 0 [.int .i64 (c : Nat), .bool true, .int .i64 (pq : Nat)] := ⟨_, rfl⟩
        have hA1 : Keep (fun x => x = w.heap.size) wr.drew W7 := by rw [hW7]; exact keep_setCells _ _ _ _
        have hA2 : Keep (fun x => x = w.heap.size + 1) W7 W8 := by rw [hW8]; exact keep_setCells _ _ _ _
        have hsz7 : wr.heap.size ≤ W7.heap.size := hA1.size
        have hTB7 : W7.there (w.heap.size + 1) 0 3 := by rw [hW7]; exact World.there_setCells ((World.there_drew _ _ _ _).2 HTB.out) _ _ _
        have hS7 : (fun w1 => w1.cell? ⟨w.heap.size + 2, 2, none⟩ = some (.int .i64 (c : Nat)) ∧ w1.cell? ⟨w.heap.size + 2, 3, none⟩ = some (.bool true) ∧ w1.cell? ⟨w.heap.size + 2, 4, none⟩ = some (.int .i64 (pq : Nat))) W7 := ⟨(hA1.cell (x := ⟨w.heap.size + 2, 2, none⟩) (by show w.heap.size + 2 < wr.heap.size; omega) (show ¬ w.heap.size + 2 = w.heap.size by omega)).trans hS0.1, (hA1.cell (x := ⟨w.heap.size + 2, 3, none⟩) (by show w.heap.size + 2 < wr.heap.size; omega) (show ¬ w.heap.size + 2 = w.heap.size by omega)).trans hS0.2.1, (hA1.cell (x := ⟨w.heap.size + 2, 4, none⟩) (by show w.heap.size + 2 < wr.heap.size; omega) (show ¬ w.heap.size + 2 = w.heap.size by omega)).trans hS0.2.2⟩
        have hS8 : (fun w1 => w1.cell? ⟨w.heap.size + 2, 2, none⟩ = some (.int .i64 (c : Nat)) ∧ w1.cell? ⟨w.heap.size + 2, 3, none⟩ = some (.bool true) ∧ w1.cell? ⟨w.heap.size + 2, 4, none⟩ = some (.int .i64 (pq : Nat))) W8 := ⟨(hA2.cell (x := ⟨w.heap.size + 2, 2, none⟩) (by show w.heap.size + 2 < W7.heap.size; omega) (show ¬ w.heap.size + 2 = w.heap.size + 1 by omega)).trans hS7.1, (hA2.cell (x := ⟨w.heap.size + 2, 3, none⟩) (by show w.heap.size + 2 < W7.heap.size; omega) (show ¬ w.heap.size + 2 = w.heap.size + 1 by omega)).trans hS7.2.1, (hA2.cell (x := ⟨w.heap.size + 2, 4, none⟩) (by show w.heap.size + 2 < W7.heap.size; omega) (show ¬ w.heap.size + 2 = w.heap.size + 1 by omega)).trans hS7.2.2⟩
        obtain ⟨hr8, hr3, hb9⟩ := two_stores (W := wr.drew) (s := w.heap.size) (L8 := [.int .i64 0, .int .i64 0, .int .i64 0, .int .i64 0, .int .i64 0, .int .i64 0, .int .i64 0, .int .i64 0]) (L3 := [.int .i64 (c : Nat), .bool true, .int .i64 (pq : Nat)]) ((World.there_drew _ _ _ _).2 HTA.out) ((World.there_drew _ _ _ _).2 HTB.out) (show w.heap.size + 1 < wr.heap.size by omega) W8 (by rw [hW8, hW7])
        have HR83 := Lib.hid (And.intro hr8 hr3)
        have HB9 := Lib.hid (((HBr.out).trans (Below.refl _ _).drew).trans hb9)
        have HW7 := Lib.hid hW7
        have HW8 := Lib.hid hW8
        have HTB7 := Lib.hid hTB7
        clear hW7 hW8 hA1 hA2 hsz7 hTB7 hr8 hr3 hb9
        refine wp_region_held_drew (S := (fun w1 => w1.cell? ⟨w.heap.size + 2, 2, none⟩ = some (.int .i64 (c : Nat)) ∧ w1.cell? ⟨w.heap.size + 2, 3, none⟩ = some (.bool true) ∧ w1.cell? ⟨w.heap.size + 2, 4, none⟩ = some (.int .i64 (pq : Nat)))) (by kernel_rfl) hS0 (fun hHeld => ?_)
        refine wpAnyH_take (i := 0) (v := (.agg #[.int .i64 0, .int .i64 0, .int .i64 0, .int .i64 0, .int .i64 0, .int .i64 0, .int .i64 0, .int .i64 0])) rfl (by kernel_rfl) (by kernel_rfl) (by kernel_rfl) (fun _ _ _ h => h) (Or.inl ⟨by rfl, fun w hSw => by (go_simp)⟩) hHeld ?_
        (try simp only [Act.put, List.getElem_toArray, List.getElem_cons_succ, List.getElem_cons_zero, List.setIfInBounds_toArray, List.set_cons_zero, List.set_cons_succ])
        refine wpAnyH_take (i := 1) (v := (.pointer (some ⟨w.heap.size + 2, 0, none⟩))) rfl (by kernel_rfl) (by kernel_rfl) (by kernel_rfl) (fun _ _ _ h => h) (Or.inl ⟨by rfl, fun w hSw => by (go_simp)⟩) hHeld ?_
        (try simp only [Act.put, List.getElem_toArray, List.getElem_cons_succ, List.getElem_cons_zero, List.setIfInBounds_toArray, List.set_cons_zero, List.set_cons_succ])
        refine wpAnyH_take (i := 2) (v := (.pointer (some ⟨w.heap.size + 2, 0, none⟩))) rfl (by kernel_rfl) (by kernel_rfl) (by kernel_rfl) (fun _ _ _ h => h) (Or.inl ⟨by rfl, fun w hSw => by (go_simp)⟩) hHeld ?_
        (try simp only [Act.put, List.getElem_toArray, List.getElem_cons_succ, List.getElem_cons_zero, List.setIfInBounds_toArray, List.set_cons_zero, List.set_cons_succ])
        refine wpAnyH_take (i := 3) (v := (.pointer (some ⟨w.heap.size + 2, 2, none⟩))) rfl (by kernel_rfl) (by kernel_rfl) (by kernel_rfl) (fun _ _ _ h => h) (Or.inl ⟨by rfl, fun w hSw => by (go_simp)⟩) hHeld ?_
        (try simp only [Act.put, List.getElem_toArray, List.getElem_cons_succ, List.getElem_cons_zero, List.setIfInBounds_toArray, List.set_cons_zero, List.set_cons_succ])
        refine wpAnyH_take (i := 4) (v := (.agg #[.int .i64 (c : Nat), .bool true, .int .i64 (pq : Nat)])) rfl (by kernel_rfl) (by kernel_rfl) (by kernel_rfl) (fun _ _ _ h => h) (Or.inl ⟨by rfl, fun w hSw => by (obtain ⟨s0, s1, s2⟩ := hSw; go_simp)⟩) hHeld ?_
        (try simp only [Act.put, List.getElem_toArray, List.getElem_cons_succ, List.getElem_cons_zero, List.setIfInBounds_toArray, List.set_cons_zero, List.set_cons_succ])
        refine wpAnyH_ready (rs := [5]) (by kernel_rfl) (by simp) ?_
        refine AllReadyH.cons rfl (fun K hK => ?_) AllReadyH.nil
        rw [if_pos (by kernel_rfl)]
        refine wp_store_mid 23 _ _ rfl w.heap.size 0 #[.int .i64 0, .int .i64 0, .int .i64 0, .int .i64 0, .int .i64 0, .int .i64 0, .int .i64 0, .int .i64 0] rfl rfl ((World.there_drew _ _ _ _).2 HTA.out) (by kernel_rfl) (by simp [Value.oneCell']) ?_
        rw [← HW7.out]
        refine hK.out _ _ hS7 (fun hHeld2 => ?_)
        clear hHeld hK K
        have hHeld := hHeld2
        clear hHeld2
        (try simp only [Act.put, List.getElem_toArray, List.getElem_cons_succ, List.getElem_cons_zero, List.setIfInBounds_toArray, List.set_cons_zero, List.set_cons_succ])
        refine wpAnyH_ready (rs := [6]) (by kernel_rfl) (by simp) ?_
        refine AllReadyH.cons rfl (fun K hK => ?_) AllReadyH.nil
        rw [if_pos (by kernel_rfl)]
        refine wp_store_mid 41 _ _ rfl (w.heap.size + 1) 0 #[.int .i64 (c : Nat), .bool true, .int .i64 (pq : Nat)] rfl rfl HTB7.out (by kernel_rfl) (by simp [Value.oneCell']) ?_
        rw [← HW8.out]
        refine hK.out _ _ hS8 (fun hHeld2 => ?_)
        clear hHeld hK K
        have hHeld := hHeld2
        clear hHeld2
        (try simp only [Act.put, List.getElem_toArray, List.getElem_cons_succ, List.getElem_cons_zero, List.setIfInBounds_toArray, List.set_cons_zero, List.set_cons_succ])
        refine wpAnyH_done (by kernel_rfl) ?_ _
        obtain ⟨hr8, hr3⟩ := HR83.out
        clear hS7 hS8 hHeld HR83
        go_wp2_with fail
        have c0 := hr8 0 _ rfl; have c1 := hr8 1 _ rfl; have c2 := hr8 2 _ rfl; have c3 := hr8 3 _ rfl; have c4 := hr8 4 _ rfl; have c5 := hr8 5 _ rfl; have c6 := hr8 6 _ rfl; have c7 := hr8 7 _ rfl
        have f0 := hr3 0 _ rfl; have f1 := hr3 1 _ rfl; have f2 := hr3 2 _ rfl
        refine bodyPost_ret (v := .tuple #[opV 0 0 0 0 0 0 0 0, faultV (c : Nat) true (pq : Nat)]) (by simp [results, Tryz.results16, go_sem, c0, c1, c2, c3, c4, c5, c6, c7, f0, f1, f2]) rfl ⟨rdPost ((c : Nat) : Int) true ((pq : Nat) : Int) HO0.out (by rw [HF.out]; rfl) (by omega) (by omega), HB9.out⟩
      | none =>
        have HOk : Hid (Calls Tryz.prog 42 #[.pointer (some ⟨w.heap.size + 2, 0, none⟩)] wr fun e w' => e = .returned (.bool true) ∧ wr = w') := by
          have h := refOk_calls hR.out
          rw [herr] at h
          exact h
        have HLeft := Lib.hid (refLeft_calls hR.out (readQ_ok l 8) (by omega))
        go_wp2_with fail
        refine HOk.out.mono ?_
        rintro e _ ⟨rfl, rfl⟩
        go_wp2_with fail
        refine HLeft.out.mono ?_
        rintro e w8 ⟨rfl, hb⟩
        have HR8 := Lib.hid (hR.out.below hb)
        have HTA := Lib.hid (World.there.below HTA.out (by omega) hb)
        have HTB := Lib.hid (World.there.below HTB.out (by omega) hb)
        have HB8 := Lib.hid (bbase HBr.out hb)
        have HA8 := Lib.hid (hA.out.below (by omega) hb)
        have hs8 : w.heap.size + 4 ≤ w8.heap.size := by have := hb.size; omega
        clear hb hR hA HBr hsr HLeft HOk
        by_cases hlf : (readQ l 8).2.1 < l.length
        · have HF := Lib.hid (readF_left hl herr hlf)
          have HO0 : Hid (readO l = opV 0 0 0 0 0 0 0 0) := by unfold Hid readO; rw [HF.out]; rfl
          have hc1 := HR8.out.c1
          have hst2 : (readQ l 8).2 = ((readQ l 8).2.1, none) := Prod.ext rfl herr
          rw [hst2] at HR8
          generalize (readQ l 8).2.1 = at0 at *
          have HFail := Lib.hid (refFail_calls (at0 := at0) HR8.out (c := 102) (by decide) (by decide))
          have hd : decide ((l.length : Int) - (at0 : Int) > 0) = true := decide_eq_true (by omega)
          clear hst hst2 herr HA8
          go_wp2_with fail
          refine HFail.out.mono ?_
          rintro e w9 ⟨rfl, hr9, hk9⟩
          have HTA := Lib.hid (there_keep1 HTA.out (by omega) hk9 (by omega))
          have HTB := Lib.hid (there_keep1 HTB.out (by omega) hk9 (by omega))
          have HBr := Lib.hid (HB8.out.trans (hk9.below (by omega) (fun j hj e => by omega)))
          have hsr : w.heap.size + 4 ≤ w9.heap.size := by have := hk9.size; omega
          have HOk : Hid (Calls Tryz.prog 42 #[.pointer (some ⟨w.heap.size + 2, 0, none⟩)] w9 fun e w' => e = .returned (.bool false) ∧ w9 = w') := refOk_calls hr9
          rcases hr9.bad with ⟨h, _⟩ | ⟨c', q', h, hca, hcb, g2, g3, g4⟩
          · cases h
          obtain ⟨rfl, rfl⟩ : 102 = c' ∧ at0 = q' := by simpa using h
          clear h hca hcb hr9 hk9 HFail HB8 hs8 HR8 hc1
          go_wp2_with fail
          refine HOk.out.mono ?_
          rintro e _ ⟨rfl, rfl⟩
          clear HOk
          go_upto_region 12 with fail
          have hS0 : (fun w1 => w1.cell? ⟨w.heap.size + 2, 2, none⟩ = some (.int .i64 ((102 : Nat))) ∧ w1.cell? ⟨w.heap.size + 2, 3, none⟩ = some (.bool true) ∧ w1.cell? ⟨w.heap.size + 2, 4, none⟩ = some (.int .i64 (at0 : Nat))) w9 := ⟨g2, g3, g4⟩
          clear g2 g3 g4
          obtain ⟨W7, hW7⟩ : ∃ W7, W7 = w9.drew.setCells w.heap.size 0 [.int .i64 0, .int .i64 0, .int .i64 0, .int .i64 0, .int .i64 0, .int .i64 0, .int .i64 0, .int .i64 0] := ⟨_, rfl⟩
          obtain ⟨W8, hW8⟩ : ∃ W8, W8 = W7.setCells (w.heap.size + 1) 0 [.int .i64 ((102 : Nat)), .bool true, .int .i64 (at0 : Nat)] := ⟨_, rfl⟩
          have hA1 : Keep (fun x => x = w.heap.size) w9.drew W7 := by rw [hW7]; exact keep_setCells _ _ _ _
          have hA2 : Keep (fun x => x = w.heap.size + 1) W7 W8 := by rw [hW8]; exact keep_setCells _ _ _ _
          have hsz7 : w9.heap.size ≤ W7.heap.size := hA1.size
          have hTB7 : W7.there (w.heap.size + 1) 0 3 := by rw [hW7]; exact World.there_setCells ((World.there_drew _ _ _ _).2 HTB.out) _ _ _
          have hS7 : (fun w1 => w1.cell? ⟨w.heap.size + 2, 2, none⟩ = some (.int .i64 ((102 : Nat))) ∧ w1.cell? ⟨w.heap.size + 2, 3, none⟩ = some (.bool true) ∧ w1.cell? ⟨w.heap.size + 2, 4, none⟩ = some (.int .i64 (at0 : Nat))) W7 := ⟨(hA1.cell (x := ⟨w.heap.size + 2, 2, none⟩) (by show w.heap.size + 2 < w9.heap.size; omega) (show ¬ w.heap.size + 2 = w.heap.size by omega)).trans hS0.1, (hA1.cell (x := ⟨w.heap.size + 2, 3, none⟩) (by show w.heap.size + 2 < w9.heap.size; omega) (show ¬ w.heap.size + 2 = w.heap.size by omega)).trans hS0.2.1, (hA1.cell (x := ⟨w.heap.size + 2, 4, none⟩) (by show w.heap.size + 2 < w9.heap.size; omega) (show ¬ w.heap.size + 2 = w.heap.size by omega)).trans hS0.2.2⟩
          have hS8 : (fun w1 => w1.cell? ⟨w.heap.size + 2, 2, none⟩ = some (.int .i64 ((102 : Nat))) ∧ w1.cell? ⟨w.heap.size + 2, 3, none⟩ = some (.bool true) ∧ w1.cell? ⟨w.heap.size + 2, 4, none⟩ = some (.int .i64 (at0 : Nat))) W8 := ⟨(hA2.cell (x := ⟨w.heap.size + 2, 2, none⟩) (by show w.heap.size + 2 < W7.heap.size; omega) (show ¬ w.heap.size + 2 = w.heap.size + 1 by omega)).trans hS7.1, (hA2.cell (x := ⟨w.heap.size + 2, 3, none⟩) (by show w.heap.size + 2 < W7.heap.size; omega) (show ¬ w.heap.size + 2 = w.heap.size + 1 by omega)).trans hS7.2.1, (hA2.cell (x := ⟨w.heap.size + 2, 4, none⟩) (by show w.heap.size + 2 < W7.heap.size; omega) (show ¬ w.heap.size + 2 = w.heap.size + 1 by omega)).trans hS7.2.2⟩
          obtain ⟨hr8, hr3, hb9⟩ := two_stores (W := w9.drew) (s := w.heap.size) (L8 := [.int .i64 0, .int .i64 0, .int .i64 0, .int .i64 0, .int .i64 0, .int .i64 0, .int .i64 0, .int .i64 0]) (L3 := [.int .i64 ((102 : Nat)), .bool true, .int .i64 (at0 : Nat)]) ((World.there_drew _ _ _ _).2 HTA.out) ((World.there_drew _ _ _ _).2 HTB.out) (show w.heap.size + 1 < w9.heap.size by omega) W8 (by rw [hW8, hW7])
          have HR83 := Lib.hid (And.intro hr8 hr3)
          have HB9 := Lib.hid (((HBr.out).trans (Below.refl _ _).drew).trans hb9)
          have HW7 := Lib.hid hW7
          have HW8 := Lib.hid hW8
          have HTB7 := Lib.hid hTB7
          clear hW7 hW8 hA1 hA2 hsz7 hTB7 hr8 hr3 hb9
          refine wp_region_held_drew (S := (fun w1 => w1.cell? ⟨w.heap.size + 2, 2, none⟩ = some (.int .i64 ((102 : Nat))) ∧ w1.cell? ⟨w.heap.size + 2, 3, none⟩ = some (.bool true) ∧ w1.cell? ⟨w.heap.size + 2, 4, none⟩ = some (.int .i64 (at0 : Nat)))) (by kernel_rfl) hS0 (fun hHeld => ?_)
          refine wpAnyH_take (i := 0) (v := (.agg #[.int .i64 0, .int .i64 0, .int .i64 0, .int .i64 0, .int .i64 0, .int .i64 0, .int .i64 0, .int .i64 0])) rfl (by kernel_rfl) (by kernel_rfl) (by kernel_rfl) (fun _ _ _ h => h) (Or.inl ⟨by rfl, fun w hSw => by (go_simp)⟩) hHeld ?_
          (try simp only [Act.put, List.getElem_toArray, List.getElem_cons_succ, List.getElem_cons_zero, List.setIfInBounds_toArray, List.set_cons_zero, List.set_cons_succ])
          refine wpAnyH_take (i := 1) (v := (.pointer (some ⟨w.heap.size + 2, 0, none⟩))) rfl (by kernel_rfl) (by kernel_rfl) (by kernel_rfl) (fun _ _ _ h => h) (Or.inl ⟨by rfl, fun w hSw => by (go_simp)⟩) hHeld ?_
          (try simp only [Act.put, List.getElem_toArray, List.getElem_cons_succ, List.getElem_cons_zero, List.setIfInBounds_toArray, List.set_cons_zero, List.set_cons_succ])
          refine wpAnyH_take (i := 2) (v := (.pointer (some ⟨w.heap.size + 2, 0, none⟩))) rfl (by kernel_rfl) (by kernel_rfl) (by kernel_rfl) (fun _ _ _ h => h) (Or.inl ⟨by rfl, fun w hSw => by (go_simp)⟩) hHeld ?_
          (try simp only [Act.put, List.getElem_toArray, List.getElem_cons_succ, List.getElem_cons_zero, List.setIfInBounds_toArray, List.set_cons_zero, List.set_cons_succ])
          refine wpAnyH_take (i := 3) (v := (.pointer (some ⟨w.heap.size + 2, 2, none⟩))) rfl (by kernel_rfl) (by kernel_rfl) (by kernel_rfl) (fun _ _ _ h => h) (Or.inl ⟨by rfl, fun w hSw => by (go_simp)⟩) hHeld ?_
          (try simp only [Act.put, List.getElem_toArray, List.getElem_cons_succ, List.getElem_cons_zero, List.setIfInBounds_toArray, List.set_cons_zero, List.set_cons_succ])
          refine wpAnyH_take (i := 4) (v := (.agg #[.int .i64 ((102 : Nat)), .bool true, .int .i64 (at0 : Nat)])) rfl (by kernel_rfl) (by kernel_rfl) (by kernel_rfl) (fun _ _ _ h => h) (Or.inl ⟨by rfl, fun w hSw => by (obtain ⟨s0, s1, s2⟩ := hSw; go_simp)⟩) hHeld ?_
          (try simp only [Act.put, List.getElem_toArray, List.getElem_cons_succ, List.getElem_cons_zero, List.setIfInBounds_toArray, List.set_cons_zero, List.set_cons_succ])
          refine wpAnyH_ready (rs := [5]) (by kernel_rfl) (by simp) ?_
          refine AllReadyH.cons rfl (fun K hK => ?_) AllReadyH.nil
          rw [if_pos (by kernel_rfl)]
          refine wp_store_mid 23 _ _ rfl w.heap.size 0 #[.int .i64 0, .int .i64 0, .int .i64 0, .int .i64 0, .int .i64 0, .int .i64 0, .int .i64 0, .int .i64 0] rfl rfl ((World.there_drew _ _ _ _).2 HTA.out) (by kernel_rfl) (by simp [Value.oneCell']) ?_
          rw [← HW7.out]
          refine hK.out _ _ hS7 (fun hHeld2 => ?_)
          clear hHeld hK K
          have hHeld := hHeld2
          clear hHeld2
          (try simp only [Act.put, List.getElem_toArray, List.getElem_cons_succ, List.getElem_cons_zero, List.setIfInBounds_toArray, List.set_cons_zero, List.set_cons_succ])
          refine wpAnyH_ready (rs := [6]) (by kernel_rfl) (by simp) ?_
          refine AllReadyH.cons rfl (fun K hK => ?_) AllReadyH.nil
          rw [if_pos (by kernel_rfl)]
          refine wp_store_mid 41 _ _ rfl (w.heap.size + 1) 0 #[.int .i64 ((102 : Nat)), .bool true, .int .i64 (at0 : Nat)] rfl rfl HTB7.out (by kernel_rfl) (by simp [Value.oneCell']) ?_
          rw [← HW8.out]
          refine hK.out _ _ hS8 (fun hHeld2 => ?_)
          clear hHeld hK K
          have hHeld := hHeld2
          clear hHeld2
          (try simp only [Act.put, List.getElem_toArray, List.getElem_cons_succ, List.getElem_cons_zero, List.setIfInBounds_toArray, List.set_cons_zero, List.set_cons_succ])
          refine wpAnyH_done (by kernel_rfl) ?_ _
          obtain ⟨hr8, hr3⟩ := HR83.out
          clear hS7 hS8 hHeld HR83
          go_wp2_with fail
          have c0 := hr8 0 _ rfl; have c1 := hr8 1 _ rfl; have c2 := hr8 2 _ rfl; have c3 := hr8 3 _ rfl; have c4 := hr8 4 _ rfl; have c5 := hr8 5 _ rfl; have c6 := hr8 6 _ rfl; have c7 := hr8 7 _ rfl
          have f0 := hr3 0 _ rfl; have f1 := hr3 1 _ rfl; have f2 := hr3 2 _ rfl
          refine bodyPost_ret (v := .tuple #[opV 0 0 0 0 0 0 0 0, faultV ((102 : Nat) : Int) true (at0 : Nat)]) (by simp [results, Tryz.results16, go_sem, c0, c1, c2, c3, c4, c5, c6, c7, f0, f1, f2]) rfl ⟨rdPost ((102 : Nat) : Int) true ((at0 : Nat) : Int) HO0.out (by rw [HF.out]; rfl) (by omega) (by omega), HB9.out⟩
        · have HF := Lib.hid (readF_all hl herr hlf)
          have hat0 : (readQ l 8).2.1 = l.length := by omega
          have HOk : Hid (Calls Tryz.prog 42 #[.pointer (some ⟨w.heap.size + 2, 0, none⟩)] w8 fun e w' => e = .returned (.bool true) ∧ w8 = w') := by
            have h := refOk_calls HR8.out
            rw [herr] at h
            exact h
          rw [hat0]
          have hd : decide ((l.length : Int) - (l.length : Int) > 0) = false := decide_eq_false (by omega)
          clear hat0 hlf hst herr HR8
          have e8 : ∀ j, j < 8 → numsUpto l 8 j = readN l j := fun j hj => by unfold numsUpto readN; rw [if_pos hj]
          have HV := Lib.hid (show readV l = validC (readN l 0) (readN l 1) (readN l 2) (readN l 3) (readN l 4) (readN l 5) (readN l 6) (readN l 7) from rfl)
          have HRO := Lib.hid (show readO l = if (readF l).1 = 0 then opV (readN l 0) (readN l 1) (readN l 2) (readN l 3) (readN l 4) (readN l 5) (readN l 6) (readN l 7) else opV 0 0 0 0 0 0 0 0 from rfl)
          rw [HF.out] at HRO
          have n0 := HA8.out.cell 0 (by decide)
          rw [e8 0 (by decide)] at n0
          have n1 := HA8.out.cell 1 (by decide)
          rw [e8 1 (by decide)] at n1
          have n2 := HA8.out.cell 2 (by decide)
          rw [e8 2 (by decide)] at n2
          have n3 := HA8.out.cell 3 (by decide)
          rw [e8 3 (by decide)] at n3
          have n4 := HA8.out.cell 4 (by decide)
          rw [e8 4 (by decide)] at n4
          have n5 := HA8.out.cell 5 (by decide)
          rw [e8 5 (by decide)] at n5
          have n6 := HA8.out.cell 6 (by decide)
          rw [e8 6 (by decide)] at n6
          have n7 := HA8.out.cell 7 (by decide)
          rw [e8 7 (by decide)] at n7
          clear e8 HA8
          generalize readN l 0 = y0 at *
          generalize readN l 1 = y1 at *
          generalize readN l 2 = y2 at *
          generalize readN l 3 = y3 at *
          generalize readN l 4 = y4 at *
          generalize readN l 5 = y5 at *
          generalize readN l 6 = y6 at *
          generalize readN l 7 = y7 at *
          rw [HV.out] at HRO HF
          clear HV
          have hT4 := there_new w8 #[.int .i64 0, .int .i64 0, .int .i64 0, .int .i64 0, .int .i64 0, .int .i64 0, .int .i64 0, .int .i64 0] 23 8 (by decide)
          have hal : Below w8.heap.size w8 (w8.alloc (Obj.cells #[.int .i64 0, .int .i64 0, .int .i64 0, .int .i64 0, .int .i64 0, .int .i64 0, .int .i64 0, .int .i64 0] 23)) := (Below.refl _ _).alloc (Nat.le_refl _) _
          have HTA := Lib.hid (World.there.below HTA.out (by omega) hal)
          have HTB := Lib.hid (World.there.below HTB.out (by omega) hal)
          have HB8 := Lib.hid (bbase HB8.out hal)
          obtain ⟨W4, hW4⟩ : ∃ W4, W4 = (w8.alloc (Obj.cells #[.int .i64 0, .int .i64 0, .int .i64 0, .int .i64 0, .int .i64 0, .int .i64 0, .int .i64 0, .int .i64 0] 23)).setCells w8.heap.size 0 [.int .i64 y0, .int .i64 y1, .int .i64 y2, .int .i64 y3, .int .i64 y4, .int .i64 y5, .int .i64 y6, .int .i64 y7] := ⟨_, rfl⟩
          have hk4 : Keep (fun x => x = w8.heap.size) (w8.alloc (Obj.cells #[.int .i64 0, .int .i64 0, .int .i64 0, .int .i64 0, .int .i64 0, .int .i64 0, .int .i64 0, .int .i64 0] 23)) W4 := by rw [hW4]; exact keep_setCells _ _ _ _
          have hr4 : W4.rangeAt w8.heap.size 0 [.int .i64 y0, .int .i64 y1, .int .i64 y2, .int .i64 y3, .int .i64 y4, .int .i64 y5, .int .i64 y6, .int .i64 y7] := by rw [hW4]; exact World.rangeAt_setCells_same _ _ _ _ hT4
          have hsa : (w8.alloc (Obj.cells #[.int .i64 0, .int .i64 0, .int .i64 0, .int .i64 0, .int .i64 0, .int .i64 0, .int .i64 0, .int .i64 0] 23)).heap.size = w8.heap.size + 1 := by simp
          have HTA := Lib.hid (there_keep1 HTA.out (by omega) hk4 (by omega))
          have HTB := Lib.hid (there_keep1 HTB.out (by omega) hk4 (by omega))
          have HB4 := Lib.hid (HB8.out.trans (hk4.below (by omega) (fun j hj e => by omega)))
          have hs4 : w8.heap.size + 1 ≤ W4.heap.size := by have := hk4.size; omega
          have HW4 := Lib.hid hW4
          have HT4 := Lib.hid hT4
          have q0 := hr4 0 _ rfl; have q1 := hr4 1 _ rfl; have q2 := hr4 2 _ rfl; have q3 := hr4 3 _ rfl; have q4 := hr4 4 _ rfl; have q5 := hr4 5 _ rfl; have q6 := hr4 6 _ rfl; have q7 := hr4 7 _ rfl
          have hob : w.heap.size + 4 ≤ w8.heap.size := hs8
          have HVc := Lib.hid (refValid_calls y0 y1 y2 y3 y4 y5 y6 y7 W4)
          generalize validC y0 y1 y2 y3 y4 y5 y6 y7 = vc at *
          clear hT4 hal hW4 hk4 hr4 hsa HB8 hs8
          simp only [Nat.zero_add] at q0 q1 q2 q3 q4 q5 q6 q7
          go_wp2_with fail
          refine HOk.out.mono ?_
          rintro e _ ⟨rfl, rfl⟩
          clear HOk
          go_wp2_with (refine wpList_store_mid rfl 23 _ _ rfl w8.heap.size 0 #[.int .i64 y0, .int .i64 y1, .int .i64 y2, .int .i64 y3, .int .i64 y4, .int .i64 y5, .int .i64 y6, .int .i64 y7] rfl rfl HT4.out (by kernel_rfl) (by simp [Value.oneCell']) ?_; rw [← HW4.out])
          refine HVc.out.mono ?_
          rintro e w5 ⟨rfl, hb⟩
          have HTA := Lib.hid (World.there.below HTA.out (by omega) hb)
          have HTB := Lib.hid (World.there.below HTB.out (by omega) hb)
          have HB5 := Lib.hid (bbase HB4.out hb)
          have hs5 : w8.heap.size + 1 ≤ w5.heap.size := by have := hb.size; omega
          have hob4 : w8.heap.size < W4.heap.size := by omega
          have p0 := (hb.cell (p := ⟨w8.heap.size, 0, none⟩) hob4).trans q0
          have p1 := (hb.cell (p := ⟨w8.heap.size, 1, none⟩) hob4).trans q1
          have p2 := (hb.cell (p := ⟨w8.heap.size, 2, none⟩) hob4).trans q2
          have p3 := (hb.cell (p := ⟨w8.heap.size, 3, none⟩) hob4).trans q3
          have p4 := (hb.cell (p := ⟨w8.heap.size, 4, none⟩) hob4).trans q4
          have p5 := (hb.cell (p := ⟨w8.heap.size, 5, none⟩) hob4).trans q5
          have p6 := (hb.cell (p := ⟨w8.heap.size, 6, none⟩) hob4).trans q6
          have p7 := (hb.cell (p := ⟨w8.heap.size, 7, none⟩) hob4).trans q7
          clear hb q0 q1 q2 q3 q4 q5 q6 q7 HVc HB4 hs4 HW4 HT4 n0 n1 n2 n3 n4 n5 n6 n7 hob4
          generalize w8.heap.size = ob at *
          by_cases hv : vc = 0
          · subst hv
            have HRv : Hid (readO l = opV y0 y1 y2 y3 y4 y5 y6 y7) := HRO.out
            rw [show codeV 0 = 0 from rfl]
            clear HRO
            go_upto_region 17 with fail
            have hS0 : (fun w1 => w1.cell? ⟨ob, 0, none⟩ = some (.int .i64 y0) ∧ w1.cell? ⟨ob, 1, none⟩ = some (.int .i64 y1) ∧ w1.cell? ⟨ob, 2, none⟩ = some (.int .i64 y2) ∧ w1.cell? ⟨ob, 3, none⟩ = some (.int .i64 y3) ∧ w1.cell? ⟨ob, 4, none⟩ = some (.int .i64 y4) ∧ w1.cell? ⟨ob, 5, none⟩ = some (.int .i64 y5) ∧ w1.cell? ⟨ob, 6, none⟩ = some (.int .i64 y6) ∧ w1.cell? ⟨ob, 7, none⟩ = some (.int .i64 y7)) w5 := ⟨p0, p1, p2, p3, p4, p5, p6, p7⟩
            clear p0 p1 p2 p3 p4 p5 p6 p7
            have hob5 : ob < w5.heap.size := by omega
            have HSB : Hid (∀ w', Below w5.heap.size w5 w' → (fun w1 => w1.cell? ⟨ob, 0, none⟩ = some (.int .i64 y0) ∧ w1.cell? ⟨ob, 1, none⟩ = some (.int .i64 y1) ∧ w1.cell? ⟨ob, 2, none⟩ = some (.int .i64 y2) ∧ w1.cell? ⟨ob, 3, none⟩ = some (.int .i64 y3) ∧ w1.cell? ⟨ob, 4, none⟩ = some (.int .i64 y4) ∧ w1.cell? ⟨ob, 5, none⟩ = some (.int .i64 y5) ∧ w1.cell? ⟨ob, 6, none⟩ = some (.int .i64 y6) ∧ w1.cell? ⟨ob, 7, none⟩ = some (.int .i64 y7)) w') := fun w' hb => ⟨(hb.cell (p := ⟨ob, 0, none⟩) hob5).trans hS0.1, (hb.cell (p := ⟨ob, 1, none⟩) hob5).trans hS0.2.1, (hb.cell (p := ⟨ob, 2, none⟩) hob5).trans hS0.2.2.1, (hb.cell (p := ⟨ob, 3, none⟩) hob5).trans hS0.2.2.2.1, (hb.cell (p := ⟨ob, 4, none⟩) hob5).trans hS0.2.2.2.2.1, (hb.cell (p := ⟨ob, 5, none⟩) hob5).trans hS0.2.2.2.2.2.1, (hb.cell (p := ⟨ob, 6, none⟩) hob5).trans hS0.2.2.2.2.2.2.1, (hb.cell (p := ⟨ob, 7, none⟩) hob5).trans hS0.2.2.2.2.2.2.2⟩
            refine wp_region_held_drew (S := (fun w1 => w1.cell? ⟨ob, 0, none⟩ = some (.int .i64 y0) ∧ w1.cell? ⟨ob, 1, none⟩ = some (.int .i64 y1) ∧ w1.cell? ⟨ob, 2, none⟩ = some (.int .i64 y2) ∧ w1.cell? ⟨ob, 3, none⟩ = some (.int .i64 y3) ∧ w1.cell? ⟨ob, 4, none⟩ = some (.int .i64 y4) ∧ w1.cell? ⟨ob, 5, none⟩ = some (.int .i64 y5) ∧ w1.cell? ⟨ob, 6, none⟩ = some (.int .i64 y6) ∧ w1.cell? ⟨ob, 7, none⟩ = some (.int .i64 y7))) (by kernel_rfl) hS0 (fun hHeld => ?_)
            refine wpAnyH_take (i := 0) (v := (.agg #[.int .i64 y0, .int .i64 y1, .int .i64 y2, .int .i64 y3, .int .i64 y4, .int .i64 y5, .int .i64 y6, .int .i64 y7])) rfl (by kernel_rfl) (by kernel_rfl) (by kernel_rfl) (fun _ _ _ h => h) (Or.inl ⟨by rfl, fun w hSw => by (obtain ⟨s0, s1, s2, s3, s4, s5, s6, s7⟩ := hSw; go_simp)⟩) hHeld ?_
            (try simp only [Act.put, List.getElem_toArray, List.getElem_cons_succ, List.getElem_cons_zero, List.setIfInBounds_toArray, List.set_cons_zero, List.set_cons_succ])
            refine wpAnyH_ready (rs := [1]) (by kernel_rfl) (by simp) ?_
            refine AllReadyH.cons rfl (fun K hK => ?_) AllReadyH.nil
            go_simp
            go_wp2_with (go_at_call 45; refine (none_calls _).mono ?_; rintro e w6 ⟨rfl, hb6⟩)
            have hb6 : Below w5.heap.size w5 w6 := (Below.refl w5.heap.size w5).drew.trans hb6
            have hS6 := HSB.out w6 hb6
            have HTA := Lib.hid (World.there.below HTA.out (by omega) hb6)
            have HTB := Lib.hid (World.there.below HTB.out (by omega) hb6)
            have HB6 := Lib.hid (bbase HB5.out hb6)
            have hs6 : ob + 1 ≤ w6.heap.size := by have := hb6.size; omega
            obtain ⟨W7, hW7⟩ : ∃ W7, W7 = w6.setCells w.heap.size 0 [.int .i64 y0, .int .i64 y1, .int .i64 y2, .int .i64 y3, .int .i64 y4, .int .i64 y5, .int .i64 y6, .int .i64 y7] := ⟨_, rfl⟩
            obtain ⟨W8, hW8⟩ : ∃ W8, W8 = W7.setCells (w.heap.size + 1) 0 [.int .i64 0, .bool false, .int .i64 0] := ⟨_, rfl⟩
            have hA1 : Keep (fun x => x = w.heap.size) w6 W7 := by rw [hW7]; exact keep_setCells _ _ _ _
            have hA2 : Keep (fun x => x = w.heap.size + 1) W7 W8 := by rw [hW8]; exact keep_setCells _ _ _ _
            have hsz7 : w6.heap.size ≤ W7.heap.size := hA1.size
            have hTB7 : W7.there (w.heap.size + 1) 0 3 := by rw [hW7]; exact World.there_setCells HTB.out _ _ _
            have hS7 : (fun w1 => w1.cell? ⟨ob, 0, none⟩ = some (.int .i64 y0) ∧ w1.cell? ⟨ob, 1, none⟩ = some (.int .i64 y1) ∧ w1.cell? ⟨ob, 2, none⟩ = some (.int .i64 y2) ∧ w1.cell? ⟨ob, 3, none⟩ = some (.int .i64 y3) ∧ w1.cell? ⟨ob, 4, none⟩ = some (.int .i64 y4) ∧ w1.cell? ⟨ob, 5, none⟩ = some (.int .i64 y5) ∧ w1.cell? ⟨ob, 6, none⟩ = some (.int .i64 y6) ∧ w1.cell? ⟨ob, 7, none⟩ = some (.int .i64 y7)) W7 := ⟨(hA1.cell (x := ⟨ob, 0, none⟩) (by show ob < w6.heap.size; omega) (show ¬ ob = w.heap.size by omega)).trans hS6.1, (hA1.cell (x := ⟨ob, 1, none⟩) (by show ob < w6.heap.size; omega) (show ¬ ob = w.heap.size by omega)).trans hS6.2.1, (hA1.cell (x := ⟨ob, 2, none⟩) (by show ob < w6.heap.size; omega) (show ¬ ob = w.heap.size by omega)).trans hS6.2.2.1, (hA1.cell (x := ⟨ob, 3, none⟩) (by show ob < w6.heap.size; omega) (show ¬ ob = w.heap.size by omega)).trans hS6.2.2.2.1, (hA1.cell (x := ⟨ob, 4, none⟩) (by show ob < w6.heap.size; omega) (show ¬ ob = w.heap.size by omega)).trans hS6.2.2.2.2.1, (hA1.cell (x := ⟨ob, 5, none⟩) (by show ob < w6.heap.size; omega) (show ¬ ob = w.heap.size by omega)).trans hS6.2.2.2.2.2.1, (hA1.cell (x := ⟨ob, 6, none⟩) (by show ob < w6.heap.size; omega) (show ¬ ob = w.heap.size by omega)).trans hS6.2.2.2.2.2.2.1, (hA1.cell (x := ⟨ob, 7, none⟩) (by show ob < w6.heap.size; omega) (show ¬ ob = w.heap.size by omega)).trans hS6.2.2.2.2.2.2.2⟩
            have hS8 : (fun w1 => w1.cell? ⟨ob, 0, none⟩ = some (.int .i64 y0) ∧ w1.cell? ⟨ob, 1, none⟩ = some (.int .i64 y1) ∧ w1.cell? ⟨ob, 2, none⟩ = some (.int .i64 y2) ∧ w1.cell? ⟨ob, 3, none⟩ = some (.int .i64 y3) ∧ w1.cell? ⟨ob, 4, none⟩ = some (.int .i64 y4) ∧ w1.cell? ⟨ob, 5, none⟩ = some (.int .i64 y5) ∧ w1.cell? ⟨ob, 6, none⟩ = some (.int .i64 y6) ∧ w1.cell? ⟨ob, 7, none⟩ = some (.int .i64 y7)) W8 := ⟨(hA2.cell (x := ⟨ob, 0, none⟩) (by show ob < W7.heap.size; omega) (show ¬ ob = w.heap.size + 1 by omega)).trans hS7.1, (hA2.cell (x := ⟨ob, 1, none⟩) (by show ob < W7.heap.size; omega) (show ¬ ob = w.heap.size + 1 by omega)).trans hS7.2.1, (hA2.cell (x := ⟨ob, 2, none⟩) (by show ob < W7.heap.size; omega) (show ¬ ob = w.heap.size + 1 by omega)).trans hS7.2.2.1, (hA2.cell (x := ⟨ob, 3, none⟩) (by show ob < W7.heap.size; omega) (show ¬ ob = w.heap.size + 1 by omega)).trans hS7.2.2.2.1, (hA2.cell (x := ⟨ob, 4, none⟩) (by show ob < W7.heap.size; omega) (show ¬ ob = w.heap.size + 1 by omega)).trans hS7.2.2.2.2.1, (hA2.cell (x := ⟨ob, 5, none⟩) (by show ob < W7.heap.size; omega) (show ¬ ob = w.heap.size + 1 by omega)).trans hS7.2.2.2.2.2.1, (hA2.cell (x := ⟨ob, 6, none⟩) (by show ob < W7.heap.size; omega) (show ¬ ob = w.heap.size + 1 by omega)).trans hS7.2.2.2.2.2.2.1, (hA2.cell (x := ⟨ob, 7, none⟩) (by show ob < W7.heap.size; omega) (show ¬ ob = w.heap.size + 1 by omega)).trans hS7.2.2.2.2.2.2.2⟩
            obtain ⟨hr8, hr3, hb9⟩ := two_stores (W := w6) (s := w.heap.size) (L8 := [.int .i64 y0, .int .i64 y1, .int .i64 y2, .int .i64 y3, .int .i64 y4, .int .i64 y5, .int .i64 y6, .int .i64 y7]) (L3 := [.int .i64 0, .bool false, .int .i64 0]) HTA.out HTB.out (show w.heap.size + 1 < w6.heap.size by omega) W8 (by rw [hW8, hW7])
            have HR83 := Lib.hid (And.intro hr8 hr3)
            have HB9 := Lib.hid (HB6.out.trans hb9)
            have HW7 := Lib.hid hW7
            have HW8 := Lib.hid hW8
            have HTB7 := Lib.hid hTB7
            clear hW7 hW8 hA1 hA2 hsz7 hTB7 hr8 hr3 hb9
            clear hb6 HSB
            refine hK.out _ _ hS6 (fun hHeld2 => ?_)
            clear hHeld hK K
            have hHeld := hHeld2
            clear hHeld2
            (try simp only [Act.put, List.getElem_toArray, List.getElem_cons_succ, List.getElem_cons_zero, List.setIfInBounds_toArray, List.set_cons_zero, List.set_cons_succ])
            refine wpAnyH_ready (rs := [2]) (by kernel_rfl) (by simp) ?_
            refine AllReadyH.cons rfl (fun K hK => ?_) AllReadyH.nil
            rw [if_pos (by kernel_rfl)]
            refine wp_store_mid 23 _ _ rfl w.heap.size 0 #[.int .i64 y0, .int .i64 y1, .int .i64 y2, .int .i64 y3, .int .i64 y4, .int .i64 y5, .int .i64 y6, .int .i64 y7] rfl rfl HTA.out (by kernel_rfl) (by simp [Value.oneCell']) ?_
            rw [← HW7.out]
            refine hK.out _ _ hS7 (fun hHeld2 => ?_)
            clear hHeld hK K
            have hHeld := hHeld2
            clear hHeld2
            (try simp only [Act.put, List.getElem_toArray, List.getElem_cons_succ, List.getElem_cons_zero, List.setIfInBounds_toArray, List.set_cons_zero, List.set_cons_succ])
            refine wpAnyH_ready (rs := [3]) (by kernel_rfl) (by simp) ?_
            refine AllReadyH.cons rfl (fun K hK => ?_) AllReadyH.nil
            rw [if_pos (by kernel_rfl)]
            refine wp_store_mid 41 _ _ rfl (w.heap.size + 1) 0 #[.int .i64 0, .bool false, .int .i64 0] rfl rfl HTB7.out (by kernel_rfl) (by simp [Value.oneCell']) ?_
            rw [← HW8.out]
            refine hK.out _ _ hS8 (fun hHeld2 => ?_)
            clear hHeld hK K
            have hHeld := hHeld2
            clear hHeld2
            (try simp only [Act.put, List.getElem_toArray, List.getElem_cons_succ, List.getElem_cons_zero, List.setIfInBounds_toArray, List.set_cons_zero, List.set_cons_succ])
            refine wpAnyH_done (by kernel_rfl) ?_ _
            obtain ⟨hr8, hr3⟩ := HR83.out
            clear hS7 hS8 hHeld HR83
            go_wp2_with fail
            have c0 := hr8 0 _ rfl; have c1 := hr8 1 _ rfl; have c2 := hr8 2 _ rfl; have c3 := hr8 3 _ rfl; have c4 := hr8 4 _ rfl; have c5 := hr8 5 _ rfl; have c6 := hr8 6 _ rfl; have c7 := hr8 7 _ rfl
            have f0 := hr3 0 _ rfl; have f1 := hr3 1 _ rfl; have f2 := hr3 2 _ rfl
            refine bodyPost_ret (v := .tuple #[opV y0 y1 y2 y3 y4 y5 y6 y7, faultV 0 false 0]) (by simp [results, Tryz.results16, go_sem, c0, c1, c2, c3, c4, c5, c6, c7, f0, f1, f2]) rfl ⟨rdPost 0 false 0 HRv.out (by rw [HF.out]; rfl) (by decide) (by decide), HB9.out⟩
          · have hcv : ¬ codeV vc = 0 := by unfold codeV; split <;> first | omega | simp_all
            have HRv : Hid (readO l = opV 0 0 0 0 0 0 0 0) := by
              unfold Hid
              rw [HRO.out]
              exact if_neg hcv
            have HBare := Lib.hid (bare_calls (codeV vc : Nat) w5)
            have hcz : ((codeV vc : Nat) : Int) ≠ 0 := by omega
            have hcb : (((codeV vc : Nat) : Int) != 0) = true := by simp; omega
            generalize codeV vc = cv at *
            clear HRO p0 p1 p2 p3 p4 p5 p6 p7
            go_wp2_with fail
            refine HBare.out.mono ?_
            rintro e w6 ⟨rfl, hb⟩
            have HTA := Lib.hid (World.there.below HTA.out (by omega) hb)
            have HTB := Lib.hid (World.there.below HTB.out (by omega) hb)
            have HB6 := Lib.hid (bbase HB5.out hb)
            have hs6 : ob + 1 ≤ w6.heap.size := by have := hb.size; omega
            obtain ⟨W7, hW7⟩ : ∃ W7, W7 = w6.setCells w.heap.size 0 zero8 := ⟨_, rfl⟩
            obtain ⟨W9, hW9⟩ : ∃ W9, W9 = W7.setCells (w.heap.size + 1) 0 [.int .i64 (cv : Nat), .bool false, .int .i64 0] := ⟨_, rfl⟩
            obtain ⟨hr8, hr3, hb9⟩ := two_stores (L8 := zero8) (L3 := [.int .i64 (cv : Nat), .bool false, .int .i64 0]) HTA.out HTB.out (by omega) W9 (by rw [hW9, hW7])
            have HB9 := Lib.hid (HB6.out.trans hb9)
            have HTC : Hid (W7.there (w.heap.size + 1) 0 3) := by unfold Hid; rw [hW7]; exact World.there_setCells HTB.out _ _ _
            have HW7 := Lib.hid hW7
            have HW9 := Lib.hid hW9
            clear hb hW9 hb9 HBare hW7
            go_wp2_with (first
              | (refine wpList_store_mid rfl 23 _ _ rfl w.heap.size 0 #[.int .i64 0, .int .i64 0, .int .i64 0, .int .i64 0, .int .i64 0, .int .i64 0, .int .i64 0, .int .i64 0] rfl rfl HTA.out (by kernel_rfl) (by simp [Value.oneCell']) ?_; rw [← HW7.out])
              | (refine wpList_store_mid rfl 41 _ _ rfl (w.heap.size + 1) 0 #[.int .i64 (cv : Nat), .bool false, .int .i64 0] rfl rfl HTC.out (by kernel_rfl) (by simp [Value.oneCell']) ?_; rw [← HW9.out])
              | fail)
            have c0 := hr8 0 _ rfl; have c1 := hr8 1 _ rfl; have c2 := hr8 2 _ rfl; have c3 := hr8 3 _ rfl; have c4 := hr8 4 _ rfl; have c5 := hr8 5 _ rfl; have c6 := hr8 6 _ rfl; have c7 := hr8 7 _ rfl
            have f0 := hr3 0 _ rfl; have f1 := hr3 1 _ rfl; have f2 := hr3 2 _ rfl
            refine bodyPost_ret (v := .tuple #[opV 0 0 0 0 0 0 0 0, faultV (cv : Nat) false 0]) (by simp [results, Tryz.results16, go_sem, c0, c1, c2, c3, c4, c5, c6, c7, f0, f1, f2]) rfl ⟨rdPost ((cv : Nat) : Int) false 0 HRv.out (by rw [HF.out]; rfl) (by omega) (by decide), HB9.out⟩
/-- pledgeref26.Read at any bytes. -/
theorem refRead_calls {w : World} {v : Value} {l : List UInt8} (hR : RdB w v (bytesI l)) (hl : l.length ≤ 140737488355328) :
    Calls Tryz.prog 16 #[v] w fun e w' => RdPost l e ∧ Below w.heap.size w w' := by
  by_cases h : l.length ≤ 256
  · exact refRead_short hR h
  · have hf : readF l = (105, false, 0) := if_pos (by omega)
    refine (refRead_long hR (by omega) hl).mono ?_
    rintro e w' ⟨rfl, hb⟩
    exact ⟨rdPost 105 false 0 (by unfold readO; rw [hf]; rfl) hf (by decide) (by decide), hb⟩
end Go.Proofs.YtchbkceconlbkaaGreatDoor
