/- The walk of pledgelaw6.RootTears: it returns true, and writes nothing that was there. REACH -/
import Derived.Test.YtehacchacgfjlaaDoorRoot7
import Derived.Test.YtehacchacgfjlaaDoorTearsLaw
import Derived.Deep.DeepCutAuto
import Derived.Deep.CutRange
import Derived.Deep.CutBlock
import Derived.Deep.RegionWith
namespace Go.Proofs.YtehacchacgfjlaaDoor
open Go.Maps
open Go Go.RowKit
set_option linter.unusedSimpArgs false
set_option linter.unusedVariables false

theorem IsRow.list7 {w : World} {a : Option Addr} {len cap : Nat} {zs : List Int} (h : IsRow .i64 w a len cap zs) :
    ∃ qs, RdK .i64 w (.slice a len cap) qs ∧ qs.length = len := by
  refine ⟨zs.take len, h.rdK, ?_⟩
  rcases h with ⟨_, h0, _⟩ | ⟨x, _, h1, _, h3, _⟩
  · rw [h0]; rfl
  · rw [List.length_take]; omega
theorem RdB.takeLit {w : World} {g c m : Nat} {bs : List Int} (h : RdB w (.slice (some ⟨g, 0, none⟩) 128 c) bs) (hl : bs.length = 128) (hm : m ≤ 128) : RdB w (.slice (some ⟨g, 0, none⟩) m c) (bs.take m) := by
  have hlm : (bs.take m).length = m := by rw [List.length_take, hl]; omega
  rcases h with ⟨_, h0⟩ | ⟨g', off, c', hv, q1, q2, q3, q4⟩
  · rw [h0] at hl; cases hl
  · simp only [Value.slice.injEq, Option.some.injEq, Addr.mk.injEq, and_true] at hv
    obtain ⟨⟨rfl, rfl⟩, _, rfl⟩ := hv
    refine .inr ⟨g, 0, c, by rw [hlm], by rw [hlm]; omega, q2, q3, fun i hi => ?_⟩
    rw [hlm] at hi
    rw [q4 i (by rw [hl]; omega)]
    simp [List.getD, List.getElem?_take, hi]
section
variable {P : Program} {ops : Array Oper} {o : Oper} {a : Act} {Q : Exit → Act → World → Prop} {w : World}
/-- 'append(b, c...)' of bytes that are read, at a slice of the call's own, as a step of a region that draws its order. -/
theorem step_appB {K : Act → World → Prop} {E' : Prop} (hgd : o.guard = none) (s x : Operand) (t : TypeId) (ho : o.op = .call { callee := .builtin .append, args := #[s, x], argTypes := #[t, t] })
    (ht : P.underlying t = some (.slice 5)) (hinfo : (P.info? 5).map (fun i => (i.zero, i.size, i.bytes)) = some (some (.int .u8 0), 1, 1))
    (base : Nat) (v : Value) (xs ys : List Int) (hs : a.eval s = v) (hown : OwnB base w v xs) (u : Value) (hx : a.eval x = u) (hr : RdB w u ys)
    (hlen : xs.length + ys.length ≤ 1000000) (hbase : base ≤ w.heap.size)
    (h : ∀ v' w', OwnB base w' v' (xs ++ ys) → Below base w w' → K (a.put o.dst v') w') : if Region.wanted o (yielded ops a.tmps) = true then Oper.wp P o a w K Q else E' := by
  have hw : Region.wanted o (yielded ops a.tmps) = true := by simp [Region.wanted, hgd]
  rw [if_pos hw]
  obtain ⟨i0, hi, hz0, hz1, hz2⟩ := info_parts hinfo
  have main : ∀ c (ad : Option Addr) (hu : u = .slice ad ys.length c), (∃ v' w', (Builtin.append_ #[t, t] o.type #[v, .slice ad ys.length c]).run P w = .ok v' w' ∧ OwnB base w' v' (xs ++ ys) ∧ Below base w w') → Oper.wp P o a w K Q := by
    rintro c ad hu ⟨v', w', hrun, h1, h2⟩
    unfold Oper.wp
    simp [execOp, ho, resolve, invoke, builtin, hs, hx, hu, hrun, Result.andThen]
    exact h v' w' h1 h2
  rcases hr with ⟨rfl, rfl⟩ | ⟨g, off, cap, rfl, h1, h2, h3, h4⟩
  · exact main 0 none rfl ⟨v, w, run_append_of_nilB w base t _ _ i0 1 ht hi v _ _ hown 0, by simpa using hown, Below.refl _ _⟩
  · refine main cap _ rfl ?_
    obtain ⟨v', w', hrun, r1, r2, _⟩ := run_append_own (P := P) w base t o.type 5 i0 (.int .u8 0) 1 1 ht hi hz0 hz1 hz2 rfl (by decide) v xs.length (xs.map bV) hown ⟨g, off, none⟩ ys.length cap (ys.map bV) (by simp)
      (by
        intro j z hj
        have hjl : j < ys.length := by simpa using (List.getElem?_eq_some_iff.1 hj).1
        rw [Addr.add_lit, h4 j hjl, ← hj]
        simp [List.getD, hjl])
      (by intro z hz; obtain ⟨n, _, rfl⟩ := List.mem_map.1 hz; rfl) (by unfold maxLen; omega) (by omega) hbase
    refine ⟨v', w', hrun, ?_, (Below.refl base w).grown r2 hbase fun k hk => (World.ownsRow.lt hown k hk).1⟩
    unfold OwnB
    rw [List.map_append, List.length_append]
    exact r1
end
set_option maxHeartbeats 8000000 in
set_option maxRecDepth 100000 in
theorem walk_RootTears {p : Nat → Addr} {w : World} (hE : Errs [1, 2, 4, 7, 8] w.heap.size p w) (a b : Int) (la : Option Addr) (llen lcap : Nat) (lz : List Int) (ma : Option Addr) (mlen mcap : Nat) (mz : List Int) (n : Int) (nothing : Bool) (h1 : -9223372036854775808 ≤ a) (h2 : a ≤ 9223372036854775807) (h3 : -9223372036854775808 ≤ b) (h4 : b ≤ 9223372036854775807) (hl : IsRow .i64 w la llen lcap lz) (sl : llen * 8 ≤ 140737488351232) (hm : IsRow .i64 w ma mlen mcap mz) (sm : mlen * 8 ≤ 140737488351232) (h5 : -9223372036854775808 ≤ n) (h6 : n ≤ 9223372036854775807) :
    Calls Tryd.prog 9 #[.int .i64 a, .int .i64 b, .slice la llen lcap, .slice ma mlen mcap, .int .i64 n, .bool nothing] w fun r w' => r = .returned (.bool true) ∧ Below w.heap.size w w' := by
  obtain ⟨l, l1, l2⟩ := hl.list7
  obtain ⟨m, m1, m2⟩ := hm.list7
  subst l2 m2
  have HE := Lib.hid hE
  have HL := Lib.hid l1
  have HM := Lib.hid m1
  clear l1 m1 hl hm hE
  go_enter Tryd.func9, Tryd.ntmps9
  go_wp2_with fail
  refine (first6_calls HE.out (by decide) (by decide)).mono ?_
  rintro r w1 ⟨rfl, hb⟩
  have HB : Hid (Below w.heap.size w w1) := hb
  clear hb
  go_wp2_with fail
  refine (made_calls a (HL.out.below HB.out) sl).mono ?_
  rintro r w2 ⟨u2, rfl, hO, hb⟩
  have HU := Lib.hid hO.rdK
  replace HB : Hid (Below w.heap.size w w2) := HB.out.trans (hb.mono HB.out.size)
  obtain ⟨a2, c2, rfl⟩ := hO.len
  clear hO hb
  go_wp2_with fail
  by_cases hok1 : rootOk a l
  · refine (bytes_ok HU.out hok1).mono ?_
    rintro r w3 ⟨u3, rfl, hO, hb⟩
    have hl3 := rootL_length a l
    obtain ⟨g3, c3, rfl, hg1, hg2, hg3, hg4, _, _⟩ := hO.cells (by rw [hl3]; decide)
    have hR3 := hO.rd
    rw [hl3] at hR3 hg3 ⊢
    have HX := Lib.hid hR3
    replace HB : Hid (Below w.heap.size w w3) := HB.out.trans (hb.mono HB.out.size)
    have HOK1 := Lib.hid hok1
    unfold maxLen at hg4
    clear hO hb HU hR3 hl3 hok1
    go_wp2_with fail
    refine (made_calls b (HM.out.below HB.out) sm).mono ?_
    rintro r w4 ⟨u4, rfl, hO, hb⟩
    have HU := Lib.hid hO.rdK
    replace HB : Hid (Below w.heap.size w w4) := HB.out.trans (hb.mono HB.out.size)
    replace HX := Lib.hid (HX.out.below hb)
    obtain ⟨a4, c4, rfl⟩ := hO.len
    clear hO hb
    go_wp2_with fail
    by_cases hok2 : rootOk b m
    · refine (bytes_ok HU.out hok2).mono ?_
      rintro r w5 ⟨u5, rfl, hO, hb⟩
      have hl5 := rootL_length b m
      obtain ⟨g5, c5, rfl, hg1', hg2', hg3', hg4', _, _⟩ := hO.cells (by rw [hl5]; decide)
      have hR5 := hO.rd
      rw [hl5] at hR5 hg3' ⊢
      have HY := Lib.hid hR5
      replace HX := Lib.hid (HX.out.below hb)
      replace HB : Hid (Below w.heap.size w w5) := HB.out.trans (hb.mono HB.out.size)
      have HOK2 := Lib.hid hok2
      unfold maxLen at hg4'
      clear hO hb HU hR5 hl5 hok2
      by_cases hab : a = b
      · subst hab
        go_wp2_with fail
        go_ret
        exact ⟨rfl, HB.out⟩
      have hab' : (a == b) = false := by simpa using hab
      have HAB := Lib.hid hab
      clear hab
      obtain ⟨xs, hxs⟩ : ∃ xs, xs = if nothing then List.replicate 128 0 else rootL a l := ⟨_, rfl⟩
      have HXS := Lib.hid hxs
      clear hxs
      go_upto_if 54 with fail
      go_cut [14] from 55 to 55 (fun s wx => Hid (RdB wx s xs) ∧ Hid (Below w5.heap.size w5 wx))
      case first =>
        cases nothing with
        | true =>
          rw [if_pos rfl] at HXS
          obtain ⟨i0, hi0, hz0, hz1, hz2⟩ := info_parts infoB
          go_wp2_with (at_make; refine wpList_make_row _ rfl _ _ 30 rfl 5 i0 (.int .u8 0) Tryd.underlying30 hi0 hz0 hz1 rfl _ _ 128 rfl rfl (by rw [hz2]; decide) (by decide) ?_; obtain ⟨w6, hw6⟩ : ∃ w6, w6 = w5.alloc (.cells (madeCells #[.int .u8 0] 128) 5) := ⟨_, rfl⟩; rw [← hw6]; have HW6 := Lib.hid hw6; clear hw6)
          go_meet
          refine ⟨?_, ?_⟩
          · unfold Hid
            rw [HXS.out, HW6.out]
            exact rowIs_rd (World.rowIs_made w5 (.int .u8 0) 128 5)
          · unfold Hid; rw [HW6.out]; (repeat (first | exact Below.refl _ _ | assumption | refine Below.drew ?_ | refine below_many ?_ _ | refine Below.alloc ?_ (by first | (simp; done) | (simp; omega) | omega) _ | refine Below.setCell ?_ (by first | (simp; done) | (simp; omega) | omega) _))
        | false =>
          rw [if_neg (by decide)] at HXS
          go_wp2_with fail
          go_meet
          exact ⟨by unfold Hid; rw [HXS.out]; have := HX.out; exact this, Below.refl _ _⟩
      case rest =>
        obtain ⟨hXs, hbw⟩ := hcut
        have hxl : xs.length = 128 := by rw [HXS.out]; cases nothing <;> simp [rootL_length]
        have HXL := Lib.hid hxl
        replace HY := Lib.hid (HY.out.below hbw.out)
        replace HB : Hid (Below w.heap.size w wc) := HB.out.trans (hbw.out.mono HB.out.size)
        clear hbw hxl HX
        go_wp2_with fail
        refine (number_calls n 129 (by decide) (by decide) _).mono ?_
        rintro r w6 ⟨rfl, rfl⟩
        have hn0 := Int.emod_nonneg n (show (129 : Int) ≠ 0 by decide)
        have hn1 := Int.emod_lt_of_pos n (show (0 : Int) < 129 by decide)
        obtain ⟨k, hk⟩ : ∃ k : Nat, n % 129 = (k : Int) := ⟨(n % 129).toNat, by omega⟩
        rw [hk] at hn0 hn1 ⊢
        clear hk
        have hk128 : k ≤ 128 := by omega
        obtain ⟨ax, cx, hsl, hRX⟩ := hXs.out.from (m := k) (by rw [HXL.out]; exact hk128)
        rw [HXL.out] at hsl hRX
        have HRX := Lib.hid (hRX.below (show Below wc.heap.size wc wc.drew from (Below.refl _ _).drew))
        have HRY := Lib.hid ((HY.out.takeLit (rootL_length b m) hk128).below (show Below wc.heap.size wc wc.drew from (Below.refl _ _).drew))
        have HBd : Hid (Below w.heap.size w wc.drew) := HB.out.drew
        have hlt : ((rootL b m).take k).length = k := by rw [List.length_take, rootL_length]; omega
        have HLT := Lib.hid hlt
        have hld : (xs.drop k).length = 128 - k := by rw [List.length_drop, HXL.out]
        have HLD := Lib.hid hld
        have hyl : ∀ w0, (Instr.slice 30 (.slice (some ⟨g5, 0, none⟩) 128 c5) none (some (.int .i64 (k : Int))) none).run Tryd.prog w0 = .ok (.slice (some ⟨g5, 0, none⟩) k c5) w0 := fun w0 => by
          have hE : Tryd.prog.elem 30 = 5 := by kernel_rfl
          rw [run_slice_h w0 30 (some ⟨g5, 0, none⟩) 128 c5 (by rw [hE]; exact Tryd.underlying30) .i64 (k : Int) (by omega) (by omega), hE, sizeB]
          simp [Result.andThen, sliced, addr_add]
        clear hRX hXs HY hlt hld
        go_wp2_with fail
        have hk0 : wc.heap.size ≤ wc.drew.heap.size := Nat.le_refl _
        go_region_held3 (fun wq => wc.heap.size ≤ wq.heap.size)
          (first | exact hk2 | exact hs7 | exact hk0)
          (first
            | (go_at_call 34; refine (refBytes_calls HRY.out (by rw [HLT.out]; omega)).mono ?_; rintro r w7 ⟨u7, rfl, hO, hb⟩; have HO := Lib.hid hO; have HRX7 := Lib.hid (HRX.out.below hb); have HB7 : Hid (Below w.heap.size w w7) := HBd.out.trans (hb.mono HBd.out.size); have hs7 := hb.size; obtain ⟨a7, c7, hv7⟩ := hO.len; rw [HLT.out] at hv7; subst hv7; clear hO hb)
            | (refine step_appB (by rfl) (.tmp 61) (.tmp 64) 30 (by rfl) Tryd.underlying30 infoB wc.heap.size _ ((rootL b m).take k) (xs.drop k) (by rfl) HO.out (.slice ax (128 - k) cx) (by rfl) HRX7.out (by rw [HLT.out, HLD.out]; omega) hs7 ?_; intro v8 w8 hO8 hb8; have hk2 : wc.heap.size ≤ w8.heap.size := Nat.le_trans hs7 hb8.size; have HB8 : Hid (Below w.heap.size w w8) := HB7.out.trans (hb8.mono (by have := HB.out.size; omega)); have HT8 : Hid (RdB w8 v8 (tornL (rootL b m) xs k)) := hO8.rd; obtain ⟨a8, c8, hv8⟩ := hO8.len; rw [List.length_append, HLT.out, HLD.out] at hv8; subst hv8; clear hO8 hb8)
            | fail)
        all_goals
          have hby : isBytes (tornL (rootL b m) xs k) := fun z hz => by
            rcases List.mem_append.1 hz with h | h
            · exact rootL_bytes b m (by have := HOK2.out.2.2; omega) z (List.mem_of_mem_take h)
            · have hx := List.mem_of_mem_drop h
              rw [HXS.out] at hx
              cases nothing with
              | true => rw [if_pos rfl] at hx; rw [List.eq_of_mem_replicate hx]; decide
              | false => rw [if_neg (by decide)] at hx; exact rootL_bytes a l (by have := HOK1.out.2.2; omega) z hx
          have HBY := Lib.hid hby
          clear hby
          have e128 : k + (128 - k) = 128 := by omega
          rw [e128] at HT8
          go_wp2_with fail
          refine (read_calls (HE.out.below HB8.out) (by decide) (by decide) HT8.out HBY.out).mono ?_
          rintro r w9 ⟨hb, hcase⟩
          have HB9 : Hid (Below w.heap.size w w9) := HB8.out.trans (hb.mono HB8.out.size)
          clear hb
          rcases hcase with ⟨e', l', v9, hre, rfl, hV, _⟩ | ⟨hre, rfl⟩
          · have HV := Lib.hid hV
            obtain ⟨a9, c9, rfl, _, _⟩ := hV.len
            have HRe := Lib.hid hre
            clear hV hre e128
            obtain ⟨wy, hwy⟩ : ∃ wy, wy = w9.alloc (.cells #[.int .i64 e', .slice a9 l'.length c9] 48) := ⟨_, rfl⟩
            have hby : Below w9.heap.size w9 wy := by rw [hwy]; (repeat (first | exact Below.refl _ _ | assumption | refine Below.drew ?_ | refine below_many ?_ _ | refine Below.alloc ?_ (by first | (simp; done) | (simp; omega) | omega) _ | refine Below.setCell ?_ (by first | (simp; done) | (simp; omega) | omega) _))
            have y0 : wy.cell? ⟨w9.heap.size, 0, none⟩ = some (.int .i64 e') := by rw [hwy]; exact cell_new w9 _ _ 0
            have y1 : wy.cell? ⟨w9.heap.size, 1, none⟩ = some (.slice a9 l'.length c9) := by rw [hwy]; exact cell_new w9 _ _ 1
            have hys : w9.heap.size < wy.heap.size := by rw [hwy]; simp
            have HWY := Lib.hid hwy
            have HVY := Lib.hid (HV.out.below hby)
            have HBY9 : Hid (Below w.heap.size w wy) := HB9.out.trans (hby.mono HB9.out.size)
            have HYC : Hid (∀ wq, Below wy.heap.size wy wq → wq.cell? ⟨w9.heap.size, 0, none⟩ = some (.int .i64 e') ∧ wq.cell? ⟨w9.heap.size, 1, none⟩ = some (.slice a9 l'.length c9)) := fun wq hq => ⟨(hq.cell (p := ⟨w9.heap.size, 0, none⟩) hys).trans y0, (hq.cell (p := ⟨w9.heap.size, 1, none⟩) hys).trans y1⟩
            clear hwy hby
            have HBd9 : Hid (Below wy.heap.size wy wy.drew) := (Below.refl _ _).drew
            have hor : (e' = b ∧ l' = m) ∨ (nothing = false ∧ ¬ (e' = b ∧ l' = m) ∧ e' = a ∧ l' = l) := by
              by_cases h1 : e' = b ∧ l' = m
              · exact .inl h1
              · refine .inr ?_
                cases nothing with
                | true =>
                  have hx := HXS.out
                  rw [if_pos rfl] at hx
                  have h2 := HRe.out
                  rw [hx] at h2
                  have h3 := torn_zero HOK2.out hk128 h2
                  exact absurd ⟨congrArg Prod.fst h3, congrArg Prod.snd h3⟩ h1
                | false =>
                  have hx := HXS.out
                  rw [if_neg (by decide)] at hx
                  have h2 := HRe.out
                  rw [hx] at h2
                  rcases torn_root HOK1.out HOK2.out HAB.out hk128 h2 with h3 | h3
                  · exact absurd ⟨congrArg Prod.fst h3, congrArg Prod.snd h3⟩ h1
                  · exact ⟨rfl, h1, congrArg Prod.fst h3, congrArg Prod.snd h3⟩
            rcases hor with ⟨rfl, rfl⟩ | ⟨rfl, hne, rfl, rfl⟩
            · have HKa : wy.drew.cell? ⟨w9.heap.size, 0, none⟩ = some (.int .i64 e') ∧ wy.drew.cell? ⟨w9.heap.size, 1, none⟩ = some (.slice a9 l'.length c9) := ⟨y0, y1⟩
              have HMy := Lib.hid (HM.out.below (HBY9.out.drew))
              clear y0 y1
              go_wp2_with fail
              rw [← HWY.out]
              refine wp_region_held_drew (S := fun wq => wq.cell? ⟨w9.heap.size, 0, none⟩ = some (.int .i64 e') ∧ wq.cell? ⟨w9.heap.size, 1, none⟩ = some (.slice a9 l'.length c9)) (by kernel_rfl) HKa (fun hHeld => ?_)
              refine wpAnyH_take (i := 0) (v := (rootV e' (.slice a9 l'.length c9))) rfl (by kernel_rfl) (by kernel_rfl) (by kernel_rfl) (fun _ _ _ h => h) (Or.inl ⟨by rfl, fun w hSw => by (obtain ⟨q0, q1⟩ := hSw; go_simp)⟩) hHeld ?_
              (try simp only [Act.put, List.getElem_toArray, List.getElem_cons_succ, List.getElem_cons_zero, List.setIfInBounds_toArray, List.set_cons_zero, List.set_cons_succ])
              refine wpAnyH_take (i := 1) (v := (.int .i64 e')) rfl (by kernel_rfl) (by kernel_rfl) (by kernel_rfl) (fun _ _ _ h => h) (Or.inl ⟨by rfl, fun w hSw => by (go_simp)⟩) hHeld ?_
              (try simp only [Act.put, List.getElem_toArray, List.getElem_cons_succ, List.getElem_cons_zero, List.setIfInBounds_toArray, List.set_cons_zero, List.set_cons_succ])
              refine wpAnyH_take (i := 2) (v := (.slice ma l'.length mcap)) rfl (by kernel_rfl) (by kernel_rfl) (by kernel_rfl) (fun _ _ _ h => h) (Or.inl ⟨by rfl, fun w hSw => by (go_simp)⟩) hHeld ?_
              (try simp only [Act.put, List.getElem_toArray, List.getElem_cons_succ, List.getElem_cons_zero, List.setIfInBounds_toArray, List.set_cons_zero, List.set_cons_succ])
              refine wpAnyH_ready (rs := [3]) (by kernel_rfl) (by simp) ?_
              refine AllReadyH.cons rfl (fun K hK => ?_) AllReadyH.nil
              go_simp
              go_wp2_with (go_at_call 32; refine (made_calls e' HMy.out sm).mono ?_; rintro r w13 ⟨u13, rfl, hO, hb⟩; have HBz : Hid (Below wy.heap.size wy w13) := HBd9.out.trans (hb.mono HBd9.out.size); have HKb := HYC.out _ HBz.out; have HU := Lib.hid hO.rdK; obtain ⟨a13, c13, rfl⟩ := hO.len; have HVz := Lib.hid (HVY.out.below HBz.out); clear hO hb)
              refine hK.out _ _ ?_ (fun hHeld2 => ?_)
              · exact HKb
              clear hHeld hK K
              have hHeld := hHeld2
              clear hHeld2
              (try simp only [Act.put, List.getElem_toArray, List.getElem_cons_succ, List.getElem_cons_zero, List.setIfInBounds_toArray, List.set_cons_zero, List.set_cons_succ])
              refine wpAnyH_ready (rs := [4]) (by kernel_rfl) (by simp) ?_
              refine AllReadyH.cons rfl (fun K hK => ?_) AllReadyH.nil
              go_simp
              go_wp2_with (go_at_call 35; refine (same_calls e' e' HVz.out HU.out).mono ?_; rintro r w14 ⟨rfl, hb⟩; have HBw : Hid (Below wy.heap.size wy w14) := HBz.out.trans (hb.mono HBz.out.size); have HKc := HYC.out _ HBw.out; rw [show decide (e' = e' ∧ l' = l') = true by simp]; clear hb)
              refine hK.out _ _ ?_ (fun hHeld2 => ?_)
              · exact HKc
              clear hHeld hK K
              have hHeld := hHeld2
              clear hHeld2
              (try simp only [Act.put, List.getElem_toArray, List.getElem_cons_succ, List.getElem_cons_zero, List.setIfInBounds_toArray, List.set_cons_zero, List.set_cons_succ])
              refine wpAnyH_take (i := 5) (v := (.bool true)) rfl (by kernel_rfl) (by kernel_rfl) (by kernel_rfl) (fun _ _ _ h => h) (Or.inl ⟨by rfl, fun w hSw => by (go_simp)⟩) hHeld ?_
              (try simp only [Act.put, List.getElem_toArray, List.getElem_cons_succ, List.getElem_cons_zero, List.setIfInBounds_toArray, List.set_cons_zero, List.set_cons_succ])
              refine wpAnyH_take (i := 6) (v := undef) rfl (by kernel_rfl) (by kernel_rfl) (by kernel_rfl) (fun _ _ _ h => h) (Or.inr ⟨by rfl, rfl⟩) hHeld ?_
              (try simp only [Act.put, List.getElem_toArray, List.getElem_cons_succ, List.getElem_cons_zero, List.setIfInBounds_toArray, List.set_cons_zero, List.set_cons_succ])
              refine wpAnyH_take (i := 7) (v := undef) rfl (by kernel_rfl) (by kernel_rfl) (by kernel_rfl) (fun _ _ _ h => h) (Or.inr ⟨by rfl, rfl⟩) hHeld ?_
              (try simp only [Act.put, List.getElem_toArray, List.getElem_cons_succ, List.getElem_cons_zero, List.setIfInBounds_toArray, List.set_cons_zero, List.set_cons_succ])
              refine wpAnyH_take (i := 8) (v := undef) rfl (by kernel_rfl) (by kernel_rfl) (by kernel_rfl) (fun _ _ _ h => h) (Or.inr ⟨by rfl, rfl⟩) hHeld ?_
              (try simp only [Act.put, List.getElem_toArray, List.getElem_cons_succ, List.getElem_cons_zero, List.setIfInBounds_toArray, List.set_cons_zero, List.set_cons_succ])
              refine wpAnyH_take (i := 9) (v := undef) rfl (by kernel_rfl) (by kernel_rfl) (by kernel_rfl) (fun _ _ _ h => h) (Or.inr ⟨by rfl, rfl⟩) hHeld ?_
              (try simp only [Act.put, List.getElem_toArray, List.getElem_cons_succ, List.getElem_cons_zero, List.setIfInBounds_toArray, List.set_cons_zero, List.set_cons_succ])
              refine wpAnyH_take (i := 10) (v := undef) rfl (by kernel_rfl) (by kernel_rfl) (by kernel_rfl) (fun _ _ _ h => h) (Or.inr ⟨by rfl, rfl⟩) hHeld ?_
              (try simp only [Act.put, List.getElem_toArray, List.getElem_cons_succ, List.getElem_cons_zero, List.setIfInBounds_toArray, List.set_cons_zero, List.set_cons_succ])
              refine wpAnyH_take (i := 11) (v := undef) rfl (by kernel_rfl) (by kernel_rfl) (by kernel_rfl) (fun _ _ _ h => h) (Or.inr ⟨by rfl, rfl⟩) hHeld ?_
              (try simp only [Act.put, List.getElem_toArray, List.getElem_cons_succ, List.getElem_cons_zero, List.setIfInBounds_toArray, List.set_cons_zero, List.set_cons_succ])
              refine wpAnyH_take (i := 12) (v := undef) rfl (by kernel_rfl) (by kernel_rfl) (by kernel_rfl) (fun _ _ _ h => h) (Or.inr ⟨by rfl, rfl⟩) hHeld ?_
              (try simp only [Act.put, List.getElem_toArray, List.getElem_cons_succ, List.getElem_cons_zero, List.setIfInBounds_toArray, List.set_cons_zero, List.set_cons_succ])
              refine wpAnyH_take (i := 13) (v := undef) rfl (by kernel_rfl) (by kernel_rfl) (by kernel_rfl) (fun _ _ _ h => h) (Or.inr ⟨by rfl, rfl⟩) hHeld ?_
              (try simp only [Act.put, List.getElem_toArray, List.getElem_cons_succ, List.getElem_cons_zero, List.setIfInBounds_toArray, List.set_cons_zero, List.set_cons_succ])
              refine wpAnyH_take (i := 14) (v := undef) rfl (by kernel_rfl) (by kernel_rfl) (by kernel_rfl) (fun _ _ _ h => h) (Or.inr ⟨by rfl, rfl⟩) hHeld ?_
              (try simp only [Act.put, List.getElem_toArray, List.getElem_cons_succ, List.getElem_cons_zero, List.setIfInBounds_toArray, List.set_cons_zero, List.set_cons_succ])
              refine wpAnyH_take (i := 15) (v := (.bool true)) rfl (by kernel_rfl) (by kernel_rfl) (by kernel_rfl) (fun _ _ _ h => h) (Or.inl ⟨by rfl, fun w hSw => by (go_simp)⟩) hHeld ?_
              (try simp only [Act.put, List.getElem_toArray, List.getElem_cons_succ, List.getElem_cons_zero, List.setIfInBounds_toArray, List.set_cons_zero, List.set_cons_succ])
              refine wpAnyH_take (i := 16) (v := (.bool true)) rfl (by kernel_rfl) (by kernel_rfl) (by kernel_rfl) (fun _ _ _ h => h) (Or.inl ⟨by rfl, fun w hSw => by (go_simp)⟩) hHeld ?_
              (try simp only [Act.put, List.getElem_toArray, List.getElem_cons_succ, List.getElem_cons_zero, List.setIfInBounds_toArray, List.set_cons_zero, List.set_cons_succ])
              refine wpAnyH_done (by kernel_rfl) ?_ _
              go_wp2_with fail
              go_ret
              exact ⟨rfl, HBY9.out.trans (HBw.out.mono HBY9.out.size)⟩
            · have HKa : wy.drew.cell? ⟨w9.heap.size, 0, none⟩ = some (.int .i64 e') ∧ wy.drew.cell? ⟨w9.heap.size, 1, none⟩ = some (.slice a9 l'.length c9) := ⟨y0, y1⟩
              have HMy := Lib.hid (HM.out.below (HBY9.out.drew))
              have HLy := Lib.hid (HL.out.below HBY9.out)
              have HNE : Hid (decide (e' = b ∧ l' = m) = false) := decide_eq_false hne
              clear y0 y1 hne
              go_wp2_with fail
              rw [← HWY.out]
              go_region_held3 (fun wq => wq.cell? ⟨w9.heap.size, 0, none⟩ = some (.int .i64 e') ∧ wq.cell? ⟨w9.heap.size, 1, none⟩ = some (.slice a9 l'.length c9))
                (first | exact HKe | exact HKd | exact HKc | exact HKb | exact HKa)
                (first
                  | (go_at_call_of 32 (Value.int .i64 b); refine (made_calls b HMy.out sm).mono ?_; rintro r w13 ⟨u13, rfl, hO, hb⟩; have HBz : Hid (Below wy.heap.size wy w13) := HBd9.out.trans (hb.mono HBd9.out.size); have HKb := HYC.out _ HBz.out; have HU := Lib.hid hO.rdK; obtain ⟨a13, c13, rfl⟩ := hO.len; have HVz := Lib.hid (HVY.out.below HBz.out); clear hO hb)
                  | (go_at_call_of 35 (rootV b (Value.slice a13 m.length c13)); refine (same_calls e' b HVz.out HU.out).mono ?_; rintro r w14 ⟨rfl, hb⟩; have HBw : Hid (Below wy.heap.size wy w14) := HBz.out.trans (hb.mono HBz.out.size); have HKc := HYC.out _ HBw.out; have HLw := Lib.hid (HLy.out.below HBw.out); rw [HNE.out]; clear hb)
                  | (go_at_call_of 32 (Value.int .i64 e'); refine (made_calls e' HLw.out sl).mono ?_; rintro r w15 ⟨u15, rfl, hO, hb⟩; have HBu : Hid (Below wy.heap.size wy w15) := HBw.out.trans (hb.mono HBw.out.size); have HKd := HYC.out _ HBu.out; have HU2 := Lib.hid hO.rdK; obtain ⟨a15, c15, rfl⟩ := hO.len; have HVu := Lib.hid (HVY.out.below HBu.out); clear hO hb)
                  | (go_at_call_of 35 (rootV e' (Value.slice a15 l'.length c15)); refine (same_calls e' e' HVu.out HU2.out).mono ?_; rintro r w16 ⟨rfl, hb⟩; have HBv : Hid (Below wy.heap.size wy w16) := HBu.out.trans (hb.mono HBu.out.size); have HKe := HYC.out _ HBv.out; rw [show decide (e' = e' ∧ l' = l') = true by simp]; clear hb)
                  | fail)
              all_goals
                go_wp2_with fail
                go_ret
                exact ⟨rfl, HBY9.out.trans (HBv.out.mono HBY9.out.size)⟩
          · unfold noRoot
            have hk1 : k < 128 := by
              refine Nat.lt_of_not_le fun h => ?_
              obtain rfl : k = 128 := by omega
              rw [torn_all HOK2.out HXL.out] at hre
              cases hre
            by_cases hk3 : 0 < k
            · have hd1 : decide (k < 128) = true := decide_eq_true hk1
              have hd2 : decide (0 < k) = true := decide_eq_true hk3
              clear hre
              go_wp2_with fail
              go_ret
              exact ⟨rfl, HB9.out.alloc HB9.out.size _⟩
            · obtain rfl : k = 0 := by omega
              obtain rfl : nothing = true := by
                cases nothing with
                | true => rfl
                | false =>
                  have hx := HXS.out
                  rw [if_neg (by decide)] at hx
                  rw [hx, torn_none HOK1.out] at hre
                  cases hre
              clear hre
              go_wp2_with fail
              go_ret
              exact ⟨rfl, HB9.out.alloc HB9.out.size _⟩
    · refine (bytes_bad (HE.out.below HB.out) (by decide) (by decide) HU.out hok2).mono ?_
      rintro r w5 ⟨rfl, hb⟩
      replace HB : Hid (Below w.heap.size w w5) := HB.out.trans (hb.mono HB.out.size)
      generalize rootErr b m = kk
      rw [show ev p kk = Value.iface 236 (.pointer (some (p kk))) from rfl]
      clear hb HU hok2
      go_wp2_with fail
      go_ret
      exact ⟨rfl, HB.out⟩
  · refine (bytes_bad (HE.out.below HB.out) (by decide) (by decide) HU.out hok1).mono ?_
    rintro r w3 ⟨rfl, hb⟩
    replace HB : Hid (Below w.heap.size w w3) := HB.out.trans (hb.mono HB.out.size)
    generalize rootErr a l = kk
    rw [show ev p kk = Value.iface 236 (.pointer (some (p kk))) from rfl]
    clear hb HU hok1
    go_wp2_with fail
    refine (made_calls b (HM.out.below HB.out) sm).mono ?_
    rintro r w4 ⟨u4, rfl, hO, hb⟩
    have HU := Lib.hid hO.rdK
    replace HB : Hid (Below w.heap.size w w4) := HB.out.trans (hb.mono HB.out.size)
    obtain ⟨a4, c4, rfl⟩ := hO.len
    clear hO hb
    go_wp2_with fail
    by_cases hok2 : rootOk b m
    · refine (bytes_ok HU.out hok2).mono ?_
      rintro r w5 ⟨u5, rfl, hO, hb⟩
      obtain ⟨a5, c5, rfl⟩ := hO.len
      replace HB : Hid (Below w.heap.size w w5) := HB.out.trans (hb.mono HB.out.size)
      clear hO hb HU hok2
      go_wp2_with fail
      go_ret
      exact ⟨rfl, HB.out⟩
    · refine (bytes_bad (HE.out.below HB.out) (by decide) (by decide) HU.out hok2).mono ?_
      rintro r w5 ⟨rfl, hb⟩
      replace HB : Hid (Below w.heap.size w w5) := HB.out.trans (hb.mono HB.out.size)
      generalize rootErr b m = kk2
      rw [show ev p kk2 = Value.iface 236 (.pointer (some (p kk2))) from rfl]
      clear hb HU hok2
      go_wp2_with fail
      go_ret
      exact ⟨rfl, HB.out⟩
end Go.Proofs.YtehacchacgfjlaaDoor
