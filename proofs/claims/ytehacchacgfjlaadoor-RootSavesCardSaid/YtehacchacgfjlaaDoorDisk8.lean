/- maps.Copy of sectors. -/
import Derived.Test.YtehacchacgfjlaaDoorDisk7
import Derived.Test.YtehacchacgfjlaaDoorRange
namespace Go.Proofs.YtehacchacgfjlaaDoor
open Go.Maps
open Go Go.RowKit
set_option linter.unusedSimpArgs false
set_option linter.unusedVariables false

theorem mget_one {α β : Type} [DecidableEq α] (k i : α) (v : β) : mget [(k, v)] i = if k = i then some v else none := by
  unfold mget
  by_cases h : k = i <;> simp [h]
theorem mget_perm {α β : Type} [DecidableEq α] {m n : List (α × β)} (h : m.Perm n) (hn : (n.map (·.1)).Nodup) (i : α) : mget m i = mget n i := by
  have hm : (m.map (·.1)).Nodup := (h.map _).nodup_iff.2 hn
  cases hg : mget n i with
  | some v => exact mget_of_mem hm (h.mem_iff.2 (mget_mem hg))
  | none => exact mget_none.2 fun x hx => mget_none.1 hg x (h.mem_iff.1 hx)
theorem RdB.blk {w : World} {v : Value} {bs : List Int} (h : RdB w v bs) : ∀ g, v.ownBlock = some g → g < w.heap.size := by
  intro g hg
  rcases h with ⟨rfl, _⟩ | ⟨g', off, cap, rfl, _, _, h3, _⟩
  · simp [Value.ownBlock] at hg
  · simp only [Value.ownBlock, Option.some.injEq] at hg; subst hg; exact h3
set_option maxHeartbeats 2000000 in
set_option maxRecDepth 100000 in
theorem copy_calls {w : World} {fb pb : Nat} {F P : SecL} (hF : SecMap w fb F) (hP : SecMap w pb P) (hne : fb ≠ pb) (hk : ∀ x ∈ P, (Lit.int .i64 x.1).wf = true) :
    Calls Tryd.prog 67 #[.map (some fb), .map (some pb)] w fun e w' => e = .returned (.tuple #[]) ∧ ∃ F', SecMap w' fb F' ∧ (∀ i, mget F' i = (mget P i).or (mget F i)) ∧ (∀ x ∈ F', x ∈ F ∨ x ∈ P) ∧ Keep (fun x => x = fb) w w' := by
  have HK := Lib.hid hk
  have HP := Lib.hid hP
  have hfl := hF.map.lt fb rfl
  have hpl := hP.map.lt pb rfl
  have hm := hP.map
  have hF0 := hF
  have HV : Hid (∀ x, x ∈ F ∨ x ∈ P → ∀ g, x.2.1.ownBlock = some g → g < w.heap.size) := fun x hx => by
    rcases hx with hx | hx
    · exact (hF.rd x hx).1.blk
    · exact (hP.rd x hx).1.blk
  have HN : Hid ((P.map (·.1)).Nodup) := hP.map.nodup
  have HF00 := Lib.hid hF
  clear hk hP
  go_enter Tryd.func67, Tryd.ntmps67
  go_wp2_with (first | (at_range; refine wpList_rng _ (by rfl) (.tmp 6) 119 (by rfl) 30 Tryd.underlying119 (by rfl) hm w.heap.size (by rfl) ?_; intro ob hR))
  have HR0 := Lib.hid hR
  have HF0 := Lib.hid (hF.below (show Below w.heap.size w (w.alloc ob) by (repeat (first | exact Below.refl _ _ | assumption | refine Below.drew ?_ | refine below_many ?_ _ | refine Below.alloc ?_ (by first | (simp; done) | (simp; omega) | omega) _ | refine Below.setCell ?_ (by first | (simp; done) | (simp; omega) | omega) _))))
  have HB0 : Hid (Keep (fun x => x = fb) w (w.alloc ob)) := Keep.of_below (by (repeat (first | exact Below.refl _ _ | assumption | refine Below.drew ?_ | refine below_many ?_ _ | refine Below.alloc ?_ (by first | (simp; done) | (simp; omega) | omega) _ | refine Below.setCell ?_ (by first | (simp; done) | (simp; omega) | omega) _)))
  clear hR hm hF hF0
  try go_frame
  go_loopw [4] (fun _ wq => ∃ (done left Fk : SecL), Hid (Rng Tryd.prog 3 i64V secV wq (some pb) w.heap.size P left) ∧ Hid ((done ++ left).Perm P) ∧ Hid (SecMap wq fb Fk) ∧ Hid (∀ i, mget Fk i = (mget done i).or (mget F i)) ∧ Hid (∀ x ∈ Fk, x ∈ F ∨ x ∈ P) ∧ Hid (Keep (fun x => x = fb) w wq) ∧ w.heap.size < wq.heap.size) (fun _ wq => leftN wq (some pb) w.heap.size)
  case atStart => exact ⟨[], P, F, HR0, List.Perm.refl _, HF0, fun i => by simp [mget], fun x hx => .inl hx, HB0, by simp⟩
  case round =>
    obtain ⟨done, left, Fk, hR, hPm, hFk, hG, hA, hB, hs1⟩ := hrel
    have hR' := hR.out
    go_wp2_with (first | (at_next; refine wpList_rng_next _ (by rfl) (.tmp 7) (by rfl) (by rfl) hR' ?_ ?_))
    · intro hl
      subst hl
      rw [List.append_nil] at hPm
      clear hR hR'
      go_wp2_with fail
      go_end0
      refine ⟨rfl, Fk, hFk.out, fun i => ?_, hA.out, hB.out⟩
      rw [hG.out i, mget_perm hPm.out HN.out i]
    · intro k v bs l1 l2 w1 hl hR1 hk1 hsz1 hen
      subst hl
      have hmem : (k, (v, bs)) ∈ P := hPm.out.subset (by simp)
      have hP1 : ((done ++ [(k, (v, bs))]) ++ (l1 ++ l2)).Perm P := by
        refine List.Perm.trans ?_ hPm.out
        rw [List.append_assoc]
        exact List.Perm.append_left done (by simpa using (List.perm_middle (a := (k, (v, bs))) (l₁ := l1) (l₂ := l2)).symm)
      have hkn : mget done k = none := by
        have hnd := (hP1.map (·.1)).nodup_iff.2 HN.out
        rw [List.map_append, List.map_append] at hnd
        have h1 := (List.nodup_append.1 hnd).1
        refine mget_none.2 fun x hx e => ?_
        have h2 := (List.nodup_append.1 h1).2.2 x.1 (List.mem_map.2 ⟨x, hx, rfl⟩) k (by simp)
        exact h2 e
      have hF1 : SecMap w1 fb Fk := hFk.out.keep hk1 (by omega) (fun x hx g hg e => by have := HV.out x (hA.out x hx) g hg; omega)
      have hPw := (HP.out.rd _ hmem)
      have hB1 : Keep (fun x => x = fb) w w1 := ⟨hk1.os.trans hB.out.os, hk1.tape.trans hB.out.tape, hk1.output.trans hB.out.output, Nat.le_trans hB.out.size hk1.size, fun j hj hn => (hk1.block j (by omega) (by omega)).trans (hB.out.block j hj hn)⟩
      have hv1 : RdB w1 v bs := hPw.1.keep hB1 (fun g hg e => hPw.1.ne_map hPw.2 HF00.out g hg e)
      obtain ⟨w2, hst, hm2, hk2⟩ := sec_store hF1 k v bs (HK.out _ hmem) hv1 hPw.2 (hv1.ne_map hPw.2 hF1) (fun x hx => RdB.ne_map (hF1.rd x hx).1 (hF1.rd x hx).2 hF1)
      have HRL := Lib.hid hR.out.left_eq
      have HR2 : Hid (Rng Tryd.prog 3 i64V secV w2 (some pb) w.heap.size P (l1 ++ l2)) := hR1.keep hk2 (by omega) (fun b hb e => by cases hb; exact hne e.symm)
      have HM2 := Lib.hid hm2
      have HB2 : Hid (Keep (fun x => x = fb) w w2) := hB1.trans hk2
      have HP1 := Lib.hid hP1
      have HG2 : Hid (∀ i, mget (mput Fk k (v, bs)) i = (mget (done ++ [(k, (v, bs))]) i).or (mget F i)) := fun i => by
        rw [mget_append, mget_one]
        by_cases e : k = i
        · subst e
          rw [mget_mput_same, hkn, if_pos rfl]; rfl
        · rw [mget_mput_other _ _ (fun e' => e e'.symm), if_neg e, hG.out i]; simp
      have HA2 : Hid (∀ x ∈ mput Fk k (v, bs), x ∈ F ∨ x ∈ P) := fun x hx => by
        rcases mem_mput hx with rfl | hx
        · exact .inr hmem
        · exact hA.out x hx
      have hs2 : w.heap.size < w2.heap.size := by have := hk2.size; omega
      clear hR hR' hPm hFk hG hA hB hk1 hR1 hF1 hm2 hk2 hB1 hP1 hkn hv1 hPw hmem
      go_wp2_with fail
      go_roundw
      case rel => exact ⟨done ++ [(k, (v, bs))], l1 ++ l2, mput Fk k (v, bs), HR2, HP1, HM2, HG2, HA2, HB2, hs2⟩
      case measure => rw [HR2.out.left_eq, HRL.out]; simp
end Go.Proofs.YtehacchacgfjlaaDoor
