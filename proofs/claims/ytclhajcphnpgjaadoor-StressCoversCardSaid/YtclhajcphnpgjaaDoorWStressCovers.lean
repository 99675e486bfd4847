/- The walk of pledgelaw22.StressCovers: it returns true, and writes nothing that was there. -/
import Derived.Test.YtclhajcphnpgjaaDoorTwoLaw
import Derived.Test.YtclhajcphnpgjaaDoorFlat
namespace Go.Proofs.YtclhajcphnpgjaaDoor
open Go Go.RowKit
set_option linter.unusedSimpArgs false
set_option linter.unusedVariables false

/-- Two slices of the call's own, apart. -/
structure TwoOwn (E : TypeId) (B : Nat) (w : World) (x y : Value) (xs ys : List Int) : Prop where
  ox : OwnI E B w x xs
  oy : OwnI E B w y ys
  dis : ∀ g, x.ownBlock = some g → y.ownBlock ≠ some g
theorem TwoOwn.alloc {E : TypeId} {B : Nat} {w : World} {x y : Value} {xs ys : List Int} (h : TwoOwn E B w x y xs ys) (o : Obj) : TwoOwn E B (w.alloc o) x y xs ys := ⟨h.ox.alloc o, h.oy.alloc o, h.dis⟩
theorem TwoOwn.below {E : TypeId} {B : Nat} {w w' : World} {x y : Value} {xs ys : List Int} (h : TwoOwn E B w x y xs ys) (k : Below w.heap.size w w') : TwoOwn E B w' x y xs ys := ⟨h.ox.below k, h.oy.below k, h.dis⟩
theorem TwoOwn.stepx {E : TypeId} {B : Nat} {w w' : World} {x y v : Value} {xs ys xs' : List Int} (h : TwoOwn E B w x y xs ys) (hv : OwnI E B w' v xs') (hk : Keep (fun k => x.ownBlock = some k) w w') (hat : v.ownBlock = x.ownBlock ∨ v.ownBlock = some w.heap.size) : TwoOwn E B w' v y xs' ys := by
  refine ⟨hv, h.oy.kept hk (fun g hg e => h.dis g e hg), fun g hg hy => ?_⟩
  have := (h.oy.block g hy).2
  rcases hat with e | e
  · exact h.dis g (e ▸ hg) hy
  · rw [e] at hg; simp only [Option.some.injEq] at hg; omega
theorem TwoOwn.stepy {E : TypeId} {B : Nat} {w w' : World} {x y v : Value} {xs ys ys' : List Int} (h : TwoOwn E B w x y xs ys) (hv : OwnI E B w' v ys') (hk : Keep (fun k => y.ownBlock = some k) w w') (hat : v.ownBlock = y.ownBlock ∨ v.ownBlock = some w.heap.size) : TwoOwn E B w' x v xs ys' := by
  refine ⟨h.ox.kept hk (fun g hg e => h.dis g hg e), hv, fun g hg hy => ?_⟩
  have := (h.ox.block g hg).2
  rcases hat with e | e
  · exact h.dis g hg (e ▸ hy)
  · rw [e] at hy; simp only [Option.some.injEq] at hy; omega

theorem wf_small (s : Nat) (h : s ≤ 1000) : (Lit.int .i64 (s : Int)).wf = true := i64wf (by omega) (by omega)
theorem wf_small1 (s : Nat) (h : s ≤ 1000) : (Lit.int .i64 ((s : Int) + 1)).wf = true := i64wf (by omega) (by omega)
theorem wrap_small1 (j : Nat) (h : j ≤ 1000) : IntKind.i64.wrap ((j : Int) + 1) = (j : Int) + 1 := IntWalk.i64_in _ (by omega)
theorem number_still (n b : Int) (hb : 0 < b) (hb2 : b ≤ 4611686018427387904) (w : World) :
    Calls Tryd.prog 16 #[.int .i64 n, .int .i64 b] w fun e w' => e = .returned (.int .i64 (n % b)) ∧ w' = w :=
  (number_calls n b hb hb2 w).mono fun e w' h => ⟨h.1, h.2.symm⟩

set_option maxHeartbeats 4000000 in
set_option maxRecDepth 100000 in
theorem walk_StressCovers {p : Nat → Addr} {w : World} (hE : Errs [2, 3, 4] w.heap.size p w) (a : Option Addr) (len cap : Nat) (zs : List Int) (c : Option Addr) (len1 cap1 : Nat) (ys : List Int) (hz : IsRows 3 w a len cap zs) (hy : IsRow .i64 w c len1 cap1 ys) :
    Calls Tryd.prog 3 #[.slice a len cap, .slice c len1 cap1] w fun e w' => e = .returned (.bool true) ∧ Below w.heap.size w w' := by
  have HE := Lib.hid hE; clear hE
  by_cases hl : 40 < len
  · have hl1 : decide ((40 : Int) < len) = true := decide_eq_true (by omega)
    clear hz hy hl
    go_enter Tryd.func3, Tryd.ntmps3
    go_wp2_with fail
    refine (first22_calls HE.out (by decide) (by decide) (by decide)).mono ?_
    rintro e w1 ⟨rfl, HB1⟩
    go_wp2_with fail
    go_ret
    exact ⟨rfl, HB1⟩
  · have hl1 : decide ((40 : Int) < len) = false := decide_eq_false (by omega)
    by_cases hk : 8 < len1
    · have hk1 : decide ((8 : Int) < len1) = true := decide_eq_true (by omega)
      clear hz hy hl hk
      go_enter Tryd.func3, Tryd.ntmps3
      go_wp2_with fail
      refine (first22_calls HE.out (by decide) (by decide) (by decide)).mono ?_
      rintro e w1 ⟨rfl, HB1⟩
      go_wp2_with fail
      go_ret
      exact ⟨rfl, HB1⟩
    · have hk1 : decide ((8 : Int) < len1) = false := decide_eq_false (by omega)
      have hl2 : len ≤ 40 := by omega
      have hk2 : len1 ≤ 8 := by omega
      clear hl hk
      have HZ := Lib.hid hz
      have HY := Lib.hid hy
      clear hz hy
      go_enter Tryd.func3, Tryd.ntmps3
      go_wp2_with fail
      refine (first22_calls HE.out (by decide) (by decide) (by decide)).mono ?_
      rintro e w1 ⟨rfl, HB1⟩
      have hs1 := HB1.size
      go_wp2_with fail
      have HT1 := Lib.hid (tab_new w.heap.size w1)
      have HB2 : Hid (Below w.heap.size w (w1.alloc (Obj.cells #[.map none] 27))) := by unfold Hid; (repeat (first | exact Below.refl _ _ | assumption | refine Below.drew ?_ | refine below_many ?_ _ | refine Below.alloc ?_ (by first | (simp; done) | (simp; omega) | omega) _ | refine Below.setCell ?_ (by first | (simp; done) | (simp; omega) | omega) _))
      generalize hw2 : w1.alloc (Obj.cells #[.map none] 27) = w2 at HT1 HB2 ⊢
      generalize htb : w1.heap.size = tb at hs1 HT1 ⊢
      clear hw2 htb HB1
      go_loopw [7] (fun i wr => ∃ k : Nat, k ≤ len ∧ i = .int .i64 k ∧ Hid (Tab w.heap.size wr tb 0 (tabM zs k)) ∧ Hid (Below w.heap.size w wr)) (fun i _ => len - (intOf i).toNat)
      case atStart => exact ⟨0, Nat.zero_le _, rfl, HT1, HB2⟩
      case round =>
        obtain ⟨k, hk, rfl, hT, hB⟩ := hrel
        by_cases hkl : k < len
        · obtain ⟨b, off, rfl, hb, hlz, hlc, hcm, hcell, hwf⟩ := HZ.out.open (by decide) (by omega)
          have hx0 : wr.cell? ⟨b, off + k * 3, none⟩ = some (.int .i64 (zs.getD (k * 3 + 0) 0)) := (hB.out.cell (p := ⟨b, off + (k * 3 + 0), none⟩) hb).trans (hcell (k * 3 + 0) (by omega))
          have hx1 : wr.cell? ⟨b, off + k * 3 + 1, none⟩ = some (.int .i64 (zs.getD (k * 3 + 1) 0)) := (hB.out.cell (p := ⟨b, off + (k * 3 + 1), none⟩) hb).trans (hcell (k * 3 + 1) (by omega))
          have hx2 : wr.cell? ⟨b, off + k * 3 + 2, none⟩ = some (.int .i64 (zs.getD (k * 3 + 2) 0)) := (hB.out.cell (p := ⟨b, off + (k * 3 + 2), none⟩) hb).trans (hcell (k * 3 + 2) (by omega))
          have HM : Hid (tabM zs (k + 1) = mset (tabM zs k) (zs.getD (k * 3 + 0) 0 % 16 + 1, zs.getD (k * 3 + 1) 0 % 8 + 1) (absM (zs.getD (k * 3 + 2) 0) 1000000)) := by
            unfold Hid; rw [tabM, Nat.mul_comm 3 k]; rfl
          clear hcell hwf
          generalize zs.getD (k * 3 + 0) 0 = sc at hx0 HM
          generalize zs.getD (k * 3 + 1) 0 = me at hx1 HM
          generalize zs.getD (k * 3 + 2) 0 = lo at hx2 HM
          have hx2' : ∀ o : Obj, (wr.alloc o).cell? ⟨b, off + k * 3 + 2, none⟩ = some (.int .i64 lo) := fun o => ((Below.refl wr.heap.size wr).alloc (Nat.le_refl _) o).cell (p := ⟨b, off + k * 3 + 2, none⟩) (World.block_lt_of_cell? wr _ hx2) |>.trans hx2
          have htm := absM_bd lo (show (0 : Int) < 1000000 by omega)
          have htm' : (if lo.tmod 1000000 < 0 then -(lo.tmod 1000000) else lo.tmod 1000000) = absM lo 1000000 := rfl
          generalize absM lo 1000000 = av at htm htm' HM
          have htl := Int.tmod_lt_of_pos lo (show (0 : Int) < 1000000 by omega)
          have htg := Int.lt_tmod_of_pos lo (show (0 : Int) < 1000000 by omega)
          generalize htq : lo.tmod 1000000 = tq at htm' htl htg
          have hn0 := World.new_ne wr _ hx0
          have hn1 := World.new_ne wr _ hx1
          go_wp2_with fail
          go_region_held3 (fun w' => w'.cell? ⟨b, off + k * 3, none⟩ = some (.int .i64 sc) ∧ w'.cell? ⟨b, off + k * 3 + 1, none⟩ = some (.int .i64 me)) (go_keep) (first | (go_at_call 16; refine (number_calls _ _ (by decide) (by decide) _).mono ?_; rintro e w1 ⟨rfl, rfl⟩))
          all_goals
            have hB' := hB.out
            have hsr := hB.out.size
            rcases (show (tq < 0 ∧ av = -tq) ∨ (¬ tq < 0 ∧ av = tq) by split at htm' <;> omega) with ⟨hq, hqa⟩ | ⟨hq, hqa⟩ <;> clear htm' <;> subst hqa
          all_goals
            go_wp2_with fail
            refine (tab_set (hT.out.below (by (repeat (first | exact Below.refl _ _ | assumption | refine Below.drew ?_ | refine below_many ?_ _ | refine Below.alloc ?_ (by first | (simp; done) | (simp; omega) | omega) _ | refine Below.setCell ?_ (by first | (simp; done) | (simp; omega) | omega) _)))) (by simp; omega) (sc % 16 + 1) (me % 8 + 1) _ (decide_eq_true (by omega))).mono ?_
            rintro e w3 ⟨rfl, hT3, hk3⟩
            have HB3 := Below.trans (show Below w.heap.size w _ by (repeat (first | exact Below.refl _ _ | assumption | refine Below.drew ?_ | refine below_many ?_ _ | refine Below.alloc ?_ (by first | (simp; done) | (simp; omega) | omega) _ | refine Below.setCell ?_ (by first | (simp; done) | (simp; omega) | omega) _))) (hk3.below (by simp; omega) (fun k hk' hs => by omega))
            have HT3 : Hid (Tab w.heap.size w3 tb 0 (tabM zs (k + 1))) := by unfold Hid; rw [HM.out]; exact hT3
            clear hT3 hk3
            go_wp2_with fail
            go_roundw
            case rel => exact ⟨k + 1, by omega, by go_num, HT3, HB3⟩
            case measure => simp [intOf]; omega
        · obtain rfl : k = len := by omega
          have HT2 := Lib.hid hT.out
          have HB3 := Lib.hid hB.out
          clear hT hB HT1 HB2 HZ hl1 hl2 hk
          obtain ⟨wb, hwb⟩ : ∃ wb, wb = wr := ⟨_, rfl⟩
          subst hwb
          have hBs : Hid (w.heap.size ≤ wb.heap.size) := HB3.out.size
          generalize hm : tabM zs k = m at HT2
          have hmb : Hid (∀ x ∈ m, 0 ≤ x.2 ∧ x.2 < 1000000) := by unfold Hid; rw [← hm]; exact tabM_bd zs k
          clear hm
          go_wp2_with fail
          go_loopw [12, 10, 11] (fun i x y wq => ∃ q : Nat, q ≤ len1 ∧ i = .int .i64 q ∧ Hid (TwoOwn 2 wb.heap.size wq x y (needL 0 ys q) (needL 5 ys q)) ∧ Hid (Below wb.heap.size wb wq)) (fun i _ _ _ => len1 - (intOf i).toNat)
          case atStart => exact ⟨0, Nat.zero_le _, rfl, ⟨OwnI.nil _ _ _, OwnI.nil _ _ _, fun g hg => by simp [Value.ownBlock] at hg⟩, Below.refl _ _⟩
          case round =>
            obtain ⟨q, hq, rfl, hT, hB⟩ := hrel
            by_cases hql : q < len1
            · obtain ⟨b, off, rfl, hb, hlz, hzc, hcm, hcell, hwf⟩ := HY.out.open (by omega)
              have hx0 := (((HB3.out.trans (hB.out.mono hBs.out))).cell (p := ⟨b, off + q, none⟩) hb).trans (hcell q (by omega))
              have hq0 : Hid (needL 0 ys (q + 1) = needL 0 ys q ++ [absM (ys.getD q 0) 1000 + 0]) := needL_snoc 0 ys q
              have hq5 : Hid (needL 5 ys (q + 1) = needL 5 ys q ++ [absM (ys.getD q 0) 1000 + 5]) := needL_snoc 5 ys q
              clear hcell hwf hlz hzc hcm
              generalize ys.getD q 0 = lo at hx0 hq0 hq5
              have htm := absM_bd lo (show (0 : Int) < 1000 by omega)
              have htm' : (if lo.tmod 1000 < 0 then -(lo.tmod 1000) else lo.tmod 1000) = absM lo 1000 := rfl
              generalize absM lo 1000 = av at htm htm' hq0 hq5
              have htl := Int.tmod_lt_of_pos lo (show (0 : Int) < 1000 by omega)
              have htg := Int.lt_tmod_of_pos lo (show (0 : Int) < 1000 by omega)
              generalize htq : lo.tmod 1000 = tq at htm' htl htg
              have hsz : Hid (wb.heap.size ≤ wr.heap.size) := hB.out.size
              rcases (show (tq < 0 ∧ tq = -av) ∨ (¬ tq < 0 ∧ av = tq) by split at htm' <;> omega) with ⟨hqq, hqa⟩ | ⟨hqq, hqa⟩ <;> clear htm' <;> subst hqa
              all_goals
                go_wp2_with (at_builtin; refine wpList_app1b rfl _ _ 23 rfl 2 Tryd.underlying23 infoI64 wb.heap.size _ (needL 0 ys q) rfl (hT.out.ox.alloc _) wr.heap.size 1 av rfl (by go_simp) (by rw [needL_len]; omega) (by have := hsz.out; simp; omega) ?_)
                intro v' w3 ho3 hk3 hat3
                have hsz3 : Hid (wb.heap.size ≤ w3.heap.size) := by have h1 := hk3.size; have h2 := hsz.out; simp at h1; unfold Hid; omega
                have HB4 : Hid (Below wb.heap.size wb w3) := (hB.out.alloc hsz.out _).trans (hk3.below (by simp; have := hsz.out; omega) (fun k hk hs => by have := (hT.out.ox.block k hs).1; omega))
                have HT3 := Lib.hid ((hT.out.alloc _).stepx ho3 hk3 (by simpa using hat3))
                clear ho3 hk3 hat3
                go_wp2_with (at_builtin; refine wpList_app1b rfl _ _ 23 rfl 2 Tryd.underlying23 infoI64 wb.heap.size _ (needL 5 ys q) rfl (HT3.out.oy.alloc _) w3.heap.size 1 (av + 5) rfl (by go_simp) (by rw [needL_len]; omega) (by have := hsz3.out; simp; omega) ?_)
                intro v2 w4 ho4 hk4 hat4
                have HB5 : Hid (Below wb.heap.size wb w4) := (HB4.out.alloc hsz3.out _).trans (hk4.below (by simp; have := hsz3.out; omega) (fun k hk hs => by have := (HT3.out.oy.block k hs).1; omega))
                have HT4 : Hid (TwoOwn 2 wb.heap.size w4 v' v2 (needL 0 ys (q + 1)) (needL 5 ys (q + 1))) := by
                  unfold Hid; rw [hq0.out, hq5.out, Int.add_zero]; exact (HT3.out.alloc _).stepy ho4 hk4 (by simpa using hat4)
                clear ho4 hk4 hat4
                go_wp2_with fail
                go_roundw
                case rel => exact ⟨q + 1, by omega, by go_num, HT4, HB5⟩
                case measure => simp [intOf]; omega
            · obtain rfl : q = len1 := by omega
              obtain ⟨ad, xcap, hxe⟩ := hT.out.ox.len
              rw [needL_len] at hxe
              obtain ⟨best, at_, less, at2, hc1, hc2, hle, ha1, ha2, hb1, hb2, hall, hex⟩ := covers hmb.out ys hk2
              obtain ⟨A, C, hAC⟩ : ∃ A C : Nat, best = 0 ∨ (A < q ∧ C < q ∧ aboveN m at_ (needL 0 ys q) A + (if C = A then 0 else aboveN m at_ (needL 0 ys q) C) = best) := by
                rcases hex with h | ⟨A, C, h1, h2, h3⟩
                · exact ⟨0, 0, .inl h⟩
                · exact ⟨A, C, .inr ⟨h1, h2, h3⟩⟩
              have HC1 := Lib.hid hc1
              have HC2 := Lib.hid hc2
              have HAL := Lib.hid hall
              have HAC := Lib.hid hAC
              have HAq : Hid (best = 0 ∨ (A < q ∧ C < q)) := by rcases hAC with h | ⟨h1, h2, _⟩; exact .inl h; exact .inr ⟨h1, h2⟩
              have HBw : Hid (Below w.heap.size w wr) := HB3.out.trans (hB.out.mono hBs.out)
              have HTw := Lib.hid (HT2.out.below hB.out)
              have HO := Lib.hid hT.out
              clear hc1 hc2 hall hAC hex hql hq hT hB HT2 HB3 HY
              subst hxe
              go_wp2_with fail
              refine (tab_cover (HE.out.below HBw.out) (by decide) (by decide) (by decide) HTw.out (own_slI HO.out.ox)).mono ?_
              rintro e w5 ⟨rfl, hb5⟩
              rw [HC1.out]
              simp only [covV]
              have HB5 := Lib.hid (HBw.out.trans (hb5.mono HBw.out.size))
              have HT5 := Lib.hid (HTw.out.below hb5)
              have HO5 := Lib.hid (HO.out.below hb5)
              clear hb5 HBw HTw HO
              go_wp2_with fail
              refine (tab_cover (HE.out.below HB5.out) (by decide) (by decide) (by decide) HT5.out (own_slI HO5.out.oy)).mono ?_
              rintro e w6 ⟨rfl, hb6⟩
              rw [HC2.out]
              simp only [covV]
              have HB6 := Lib.hid (HB5.out.trans (hb6.mono HB5.out.size))
              have HT6 := Lib.hid (HT5.out.below hb6)
              have HO6 := Lib.hid (HO5.out.below hb6)
              clear hb6 HB5 HT5 HO5 HC1 HC2
              go_wp2_with fail
              go_loopw [21, 20] (fun i u wq => ∃ (s : Nat) (fb : Bool), 1 ≤ s ∧ s ≤ 17 ∧ i = .int .i64 s ∧ u = .bool fb ∧ Hid (best = 0 ∨ at_ < s → fb = true) ∧ Hid (Below w6.heap.size w6 wq)) (fun i _ _ => 17 - (intOf i).toNat)
              case atStart => exact ⟨1, _, by omega, by omega, rfl, rfl, fun h => by rcases h with h | h; · simp [h]
                                                                                     · omega, Below.refl _ _⟩
              case round =>
                obtain ⟨s, fb, hs1, hs2, rfl, rfl, hin, hB⟩ := hrel
                by_cases hs : s ≤ 16
                · have hgb : ∀ j : Nat, 0 ≤ (mget m ((s : Int), (j : Int) + 1)).getD 0 ∧ (mget m ((s : Int), (j : Int) + 1)).getD 0 < 1000000 := fun j => by
                    cases hg : mget m ((s : Int), (j : Int) + 1) with
                    | none => simp
                    | some v => have := hmb.out _ (mget_mem hg); simpa using this
                  have HGB := Lib.hid hgb
                  have hsI : (s : Int) ≤ 16 := by omega
                  clear hgb
                  go_wp2_with fail
                  go_loopw [22, 20] (fun i u wq => ∃ (j : Nat) (fb : Bool), j ≤ q ∧ i = .int .i64 j ∧ u = .bool fb ∧ Hid (best = 0 ∨ at_ < s ∨ (at_ = s ∧ A < j) → fb = true) ∧ Hid (Below w6.heap.size w6 wq)) (fun i _ _ => q - (intOf i).toNat)
                  case atStart => exact ⟨0, fb, Nat.zero_le _, rfl, rfl, fun h => hin.out (by omega), hB⟩
                  case round =>
                    obtain ⟨j, fb2, hj, rfl, rfl, hin2, hB2⟩ := hrel
                    by_cases hjq : j < q
                    · obtain ⟨gx, xc2, hxe, hgx, hgl, hcp, hcm, hcells, hfz⟩ := HO6.out.ox.cells (by intro e; have := needL_len 0 ys q; rw [e] at this; simp at this; omega)
                      simp only [Value.slice.injEq] at hxe
                      obtain ⟨rfl, hxl, rfl⟩ := hxe
                      clear hxl
                      have HCL : Hid (∀ i, i < q → w6.cell? ⟨gx, i, none⟩ = some (.int .i64 ((needL 0 ys q).getD i 0))) := fun i hi => hcells i (by rw [needL_len]; exact hi)
                      have hc0 := (hB2.out.cell (p := ⟨gx, j, none⟩) hgl).trans (HCL.out j hjq)
                      have hnb : 0 ≤ (needL 0 ys q).getD j 0 ∧ (needL 0 ys q).getD j 0 ≤ 1000 := by
                        rw [needL_get _ _ hjq]; have := absM_bd (ys.getD j 0) (show (0 : Int) < 1000 by omega); omega
                      have hgj := HGB.out j
                      have HX : Hid (aboveN m s (needL 0 ys q) j = max ((mget m ((s : Int), (j : Int) + 1)).getD 0 - (needL 0 ys q).getD j 0) 0) := rfl
                      generalize hnj : (needL 0 ys q).getD j 0 = nj at hc0 hnb HX
                      generalize hgg : (mget m ((s : Int), (j : Int) + 1)).getD 0 = g at hgj HX
                      have HG := Lib.hid hgg
                      have HG' : Hid (∃ X, aboveN m s (needL 0 ys q) j = X ∧ 0 ≤ X ∧ X ≤ 1000000 ∧ ((0 < X ∧ g = X + nj ∧ IntKind.i64.wrap X = X) ∨ (X = 0 ∧ g - nj ≤ 0 ∧ IntKind.i64.wrap (g - nj) = g - nj))) := by
                        unfold Hid; rw [HX.out]
                        refine ⟨_, rfl, by omega, by omega, ?_⟩
                        by_cases hq0 : 0 < g - nj
                        · exact .inl ⟨by omega, by omega, IntWalk.i64_in _ (by omega)⟩
                        · exact .inr ⟨by omega, by omega, IntWalk.i64_in _ (by omega)⟩
                      obtain ⟨X, hX1, hX2, hX3, hX4⟩ := HG'.out
                      have HX2 := Lib.hid hX1
                      clear hX1 HG' HX
                      have hj0 : (0 : Int) ≤ (j : Int) := Int.natCast_nonneg _
                      have hj8 : (j : Int) < 8 := by omega
                      rcases hX4 with ⟨hX4, rfl, hwX⟩ | ⟨rfl, hX5, hwX⟩
                      all_goals
                        have hBB := hB2.out
                        have hBd := Below.drew hB2.out
                        have hs0 : gx < wr.heap.size := Nat.lt_of_lt_of_le hgl hBB.size
                        have hs1' : w6.heap.size ≤ wr.heap.size := hBB.size
                        clear hnj hgg hcells hfz hcp hcm hgx
                        go_wp2_with fail
                        go_region_held3 (fun w' => w'.cell? ⟨gx, j, none⟩ = some (.int .i64 nj) ∧ Below w6.heap.size w6 w' ∧ gx < w'.heap.size ∧ w6.heap.size ≤ w'.heap.size) (((repeat' apply And.intro) <;> (first | (exact hB.trans (hb.mono (by omega))) | (have hsz := hb.size; omega) | (rw [hb.cell (p := ⟨_, _, none⟩) (by first | assumption | (simp; done))]; assumption) | assumption | (simp [*]; done)))) (first | (go_at_call 19; obtain ⟨hc0, hB, hs0, hs0'⟩ := ‹_ ∧ Below w6.heap.size w6 _ ∧ _›; rw [wrap_small1 j (Nat.le_trans (Nat.le_of_lt hjq) (Nat.le_trans hk2 (by decide)))]; refine (tab_get (HT6.out.below hB) (s : Int) ((j : Int) + 1) (wf_small s (Nat.le_trans hs (by decide))) (wf_small1 j (Nat.le_trans (Nat.le_of_lt hjq) (Nat.le_trans hk2 (by decide))))).mono ?_; rintro e w1 ⟨rfl, hb⟩; rw [HG.out]))
                      · obtain ⟨hc0, hB, hs0, hs0'⟩ := ‹_ ∧ Below w6.heap.size w6 _ ∧ _›
                        have HB7 := Lib.hid hB
                        clear hc0 hB hs0 hs0' hBB hBd hB2 hs1' hwX HG
                        go_wp2_with fail
                        go_loopw [24, 20] (fun i u wq => ∃ (e : Nat) (fb : Bool), e ≤ q ∧ i = .int .i64 e ∧ u = .bool fb ∧ Hid (best = 0 ∨ at_ < s ∨ (at_ = s ∧ A < j) ∨ (at_ = s ∧ A = j ∧ C < e) → fb = true) ∧ Hid (Below w6.heap.size w6 wq)) (fun i _ _ => q - (intOf i).toNat)
                        case atStart => exact ⟨0, fb2, Nat.zero_le _, rfl, rfl, fun h => hin2.out (by omega), HB7⟩
                        case round =>
                          obtain ⟨e, fb3, he, rfl, rfl, hin3, hB3⟩ := hrel
                          by_cases heq : e < q
                          · have hc1 := (hB3.out.cell (p := ⟨gx, e, none⟩) hgl).trans (HCL.out e heq)
                            have hnb1 : 0 ≤ (needL 0 ys q).getD e 0 ∧ (needL 0 ys q).getD e 0 ≤ 1000 := by
                              rw [needL_get _ _ heq]; have := absM_bd (ys.getD e 0) (show (0 : Int) < 1000 by omega); omega
                            have hge := HGB.out e
                            have HY : Hid (aboveN m s (needL 0 ys q) e = max ((mget m ((s : Int), (e : Int) + 1)).getD 0 - (needL 0 ys q).getD e 0) 0) := rfl
                            have hle1 := HAL.out s j e (by omega) hsI hjq heq
                            rw [HX2.out] at hle1
                            have hD1 : best = 0 ∨ ¬ (at_ = s ∧ A = j ∧ C = e) ∨ X + (if e = j then 0 else aboveN m s (needL 0 ys q) e) = best := by
                              rcases HAC.out with h | ⟨_, _, h⟩
                              · exact .inl h
                              · by_cases hz : at_ = s ∧ A = j ∧ C = e
                                · obtain ⟨h1, h2, h3⟩ := hz
                                  rw [h1, h2, h3, HX2.out] at h
                                  exact .inr (.inr h)
                                · exact .inr (.inl hz)
                            generalize hnj1 : (needL 0 ys q).getD e 0 = ne at hc1 hnb1 HY
                            generalize hgg1 : (mget m ((s : Int), (e : Int) + 1)).getD 0 = g2 at hge HY
                            have HG1 := Lib.hid hgg1
                            have HG' : Hid (∃ Y, aboveN m s (needL 0 ys q) e = Y ∧ 0 ≤ Y ∧ Y ≤ 1000000 ∧ ((0 < Y ∧ g2 = Y + ne ∧ IntKind.i64.wrap Y = Y) ∨ (Y = 0 ∧ g2 - ne ≤ 0 ∧ IntKind.i64.wrap (g2 - ne) = g2 - ne))) := by
                              unfold Hid; rw [HY.out]
                              refine ⟨_, rfl, by omega, by omega, ?_⟩
                              by_cases hq0 : 0 < g2 - ne
                              · exact .inl ⟨by omega, by omega, IntWalk.i64_in _ (by omega)⟩
                              · exact .inr ⟨by omega, by omega, IntWalk.i64_in _ (by omega)⟩
                            obtain ⟨Y, hY1, hY2, hY3, hY4⟩ := HG'.out
                            rw [hY1] at hle1 hD1
                            have HLE := Lib.hid hle1
                            have HD := Lib.hid hD1
                            clear hY1 HG' HY hle1 hD1
                            have he0 : (0 : Int) ≤ (e : Int) := Int.natCast_nonneg _
                            have he8 : (e : Int) < 8 := by omega
                            rcases hY4 with ⟨hY4, rfl, hwY⟩ | ⟨rfl, hY5, hwY⟩
                            all_goals
                              have hBB := hB3.out
                              have hBd := Below.drew hB3.out
                              have hs0 : gx < wr.heap.size := Nat.lt_of_lt_of_le hgl hBB.size
                              have hs1' : w6.heap.size ≤ wr.heap.size := hBB.size
                              clear hnj1 hgg1
                              go_wp2_with fail
                              go_region_held3 (fun w' => w'.cell? ⟨gx, e, none⟩ = some (.int .i64 ne) ∧ Below w6.heap.size w6 w' ∧ gx < w'.heap.size ∧ w6.heap.size ≤ w'.heap.size) (((repeat' apply And.intro) <;> (first | (exact hB.trans (hb.mono (by omega))) | (have hsz := hb.size; omega) | (rw [hb.cell (p := ⟨_, _, none⟩) (by first | assumption | (simp; done))]; assumption) | assumption | (simp [*]; done)))) (first | (go_at_call 19; obtain ⟨hc0, hB, hs0, hs0'⟩ := ‹_ ∧ Below w6.heap.size w6 _ ∧ _›; rw [wrap_small1 e (Nat.le_trans (Nat.le_of_lt heq) (Nat.le_trans hk2 (by decide)))]; refine (tab_get (HT6.out.below hB) (s : Int) ((e : Int) + 1) (wf_small s (Nat.le_trans hs (by decide))) (wf_small1 e (Nat.le_trans (Nat.le_of_lt heq) (Nat.le_trans hk2 (by decide))))).mono ?_; rintro e w1 ⟨rfl, hb⟩; rw [HG1.out]))
                            · obtain ⟨hc0, hB, hs0, hs0'⟩ := ‹_ ∧ Below w6.heap.size w6 _ ∧ _›
                              have HB8 := Lib.hid hB
                              clear hc0 hB hs0 hs0' hBB hBd hB3 hs1' hwY HG1
                              by_cases hej : e = j
                              · obtain rfl : j = e := hej.symm
                                have hle1 : X ≤ best := by have := HLE.out; rw [if_pos rfl] at this; omega
                                have hdd := HD.out
                                rw [if_pos rfl] at hdd
                                clear HLE HD
                                cases fb3 with
                                | true =>
                                  go_wp2_with fail
                                  go_roundw
                                  case rel => exact ⟨j + 1, true, by omega, by go_num, rfl, fun _ => rfl, HB8⟩
                                  case measure => simp [intOf]; omega
                                | false =>
                                  have hin4 : ¬ (best = 0 ∨ at_ < s ∨ (at_ = s ∧ A < j) ∨ (at_ = s ∧ A = j ∧ C < j)) := fun h => by have := hin3.out h; cases this
                                  have HIN := Lib.hid hin4
                                  clear hin4 hin3
                                  by_cases hb0 : X = best
                                  · by_cases hs3 : (s : Int) = at_
                                    · go_wp2_with fail
                                      go_roundw
                                      case rel => exact ⟨j + 1, true, by omega, by go_num, rfl, fun _ => rfl, HB8⟩
                                      case measure => simp [intOf]; omega
                                    · go_wp2_with fail
                                      go_roundw
                                      case rel => exact ⟨j + 1, false, by omega, by go_num, (by first | rfl | simp [hs3]), fun h => absurd h (by have := HIN.out; omega), HB8⟩
                                      case measure => simp [intOf]; omega
                                  · have HDD := Lib.hid hdd
                                    clear hdd
                                    go_wp2_with fail
                                    go_roundw
                                    case rel => exact ⟨j + 1, false, by omega, by go_num, rfl, fun h => absurd h (by have := HIN.out; have := HDD.out; omega), HB8⟩
                                    case measure => simp [intOf]; omega
                              · have hejI : ¬ (e : Int) = (j : Int) := fun h => hej (by omega)
                                have hle1 : X + Y ≤ best := by have := HLE.out; rw [if_neg hej] at this; omega
                                have hdd := HD.out
                                rw [if_neg hej] at hdd
                                clear HLE HD
                                cases fb3 with
                                | true =>
                                  go_wp2_with fail
                                  go_roundw
                                  case rel => exact ⟨e + 1, true, by omega, by go_num, rfl, fun _ => rfl, HB8⟩
                                  case measure => simp [intOf]; omega
                                | false =>
                                  have hin4 : ¬ (best = 0 ∨ at_ < s ∨ (at_ = s ∧ A < j) ∨ (at_ = s ∧ A = j ∧ C < e)) := fun h => by have := hin3.out h; cases this
                                  have HIN := Lib.hid hin4
                                  clear hin4 hin3
                                  by_cases hb0 : X + Y = best
                                  · by_cases hs3 : (s : Int) = at_
                                    · go_wp2_with fail
                                      go_roundw
                                      case rel => exact ⟨e + 1, true, by omega, by go_num, rfl, fun _ => rfl, HB8⟩
                                      case measure => simp [intOf]; omega
                                    · go_wp2_with fail
                                      go_roundw
                                      case rel => exact ⟨e + 1, false, by omega, by go_num, (by first | rfl | simp [hs3]), fun h => absurd h (by have := HIN.out; omega), HB8⟩
                                      case measure => simp [intOf]; omega
                                  · have HDD := Lib.hid hdd
                                    clear hdd
                                    go_wp2_with fail
                                    go_roundw
                                    case rel => exact ⟨e + 1, false, by omega, by go_num, rfl, fun h => absurd h (by have := HIN.out; have := HDD.out; omega), HB8⟩
                                    case measure => simp [intOf]; omega
                            · obtain ⟨hc0, hB, hs0, hs0'⟩ := ‹_ ∧ Below w6.heap.size w6 _ ∧ _›
                              have HB8 := Lib.hid hB
                              clear hc0 hB hs0 hs0' hBB hBd hB3 hs1' hwY HG1
                              by_cases hej : e = j
                              · obtain rfl : j = e := hej.symm
                                have hle1 : X ≤ best := by have := HLE.out; rw [if_pos rfl] at this; omega
                                have hdd := HD.out
                                rw [if_pos rfl] at hdd
                                clear HLE HD
                                cases fb3 with
                                | true =>
                                  go_wp2_with fail
                                  go_roundw
                                  case rel => exact ⟨j + 1, true, by omega, by go_num, rfl, fun _ => rfl, HB8⟩
                                  case measure => simp [intOf]; omega
                                | false =>
                                  have hin4 : ¬ (best = 0 ∨ at_ < s ∨ (at_ = s ∧ A < j) ∨ (at_ = s ∧ A = j ∧ C < j)) := fun h => by have := hin3.out h; cases this
                                  have HIN := Lib.hid hin4
                                  clear hin4 hin3
                                  by_cases hb0 : X = best
                                  · by_cases hs3 : (s : Int) = at_
                                    · go_wp2_with fail
                                      go_roundw
                                      case rel => exact ⟨j + 1, true, by omega, by go_num, rfl, fun _ => rfl, HB8⟩
                                      case measure => simp [intOf]; omega
                                    · go_wp2_with fail
                                      go_roundw
                                      case rel => exact ⟨j + 1, false, by omega, by go_num, (by first | rfl | simp [hs3]), fun h => absurd h (by have := HIN.out; omega), HB8⟩
                                      case measure => simp [intOf]; omega
                                  · have HDD := Lib.hid hdd
                                    clear hdd
                                    go_wp2_with fail
                                    go_roundw
                                    case rel => exact ⟨j + 1, false, by omega, by go_num, rfl, fun h => absurd h (by have := HIN.out; have := HDD.out; omega), HB8⟩
                                    case measure => simp [intOf]; omega
                              · have hejI : ¬ (e : Int) = (j : Int) := fun h => hej (by omega)
                                have hle1 : X + 0 ≤ best := by have := HLE.out; rw [if_neg hej] at this; omega
                                have hdd := HD.out
                                rw [if_neg hej] at hdd
                                clear HLE HD
                                cases fb3 with
                                | true =>
                                  go_wp2_with fail
                                  go_roundw
                                  case rel => exact ⟨e + 1, true, by omega, by go_num, rfl, fun _ => rfl, HB8⟩
                                  case measure => simp [intOf]; omega
                                | false =>
                                  have hin4 : ¬ (best = 0 ∨ at_ < s ∨ (at_ = s ∧ A < j) ∨ (at_ = s ∧ A = j ∧ C < e)) := fun h => by have := hin3.out h; cases this
                                  have HIN := Lib.hid hin4
                                  clear hin4 hin3
                                  by_cases hb0 : X + 0 = best
                                  · by_cases hs3 : (s : Int) = at_
                                    · go_wp2_with fail
                                      go_roundw
                                      case rel => exact ⟨e + 1, true, by omega, by go_num, rfl, fun _ => rfl, HB8⟩
                                      case measure => simp [intOf]; omega
                                    · go_wp2_with fail
                                      go_roundw
                                      case rel => exact ⟨e + 1, false, by omega, by go_num, (by first | rfl | simp [hs3]), fun h => absurd h (by have := HIN.out; omega), HB8⟩
                                      case measure => simp [intOf]; omega
                                  · have HDD := Lib.hid hdd
                                    clear hdd
                                    go_wp2_with fail
                                    go_roundw
                                    case rel => exact ⟨e + 1, false, by omega, by go_num, rfl, fun h => absurd h (by have := HIN.out; have := HDD.out; omega), HB8⟩
                                    case measure => simp [intOf]; omega
                          · obtain rfl : e = q := by omega
                            go_wp2_with fail
                            go_roundw
                            case rel => exact ⟨j + 1, fb3, by omega, by go_num, rfl, fun h => hin3.out (by have := HAq.out; omega), hB3⟩
                            case measure => simp [intOf]; omega
                      · obtain ⟨hc0, hB, hs0, hs0'⟩ := ‹_ ∧ Below w6.heap.size w6 _ ∧ _›
                        have HB7 := Lib.hid hB
                        clear hc0 hB hs0 hs0' hBB hBd hB2 hs1' hwX HG
                        go_wp2_with fail
                        go_loopw [24, 20] (fun i u wq => ∃ (e : Nat) (fb : Bool), e ≤ q ∧ i = .int .i64 e ∧ u = .bool fb ∧ Hid (best = 0 ∨ at_ < s ∨ (at_ = s ∧ A < j) ∨ (at_ = s ∧ A = j ∧ C < e) → fb = true) ∧ Hid (Below w6.heap.size w6 wq)) (fun i _ _ => q - (intOf i).toNat)
                        case atStart => exact ⟨0, fb2, Nat.zero_le _, rfl, rfl, fun h => hin2.out (by omega), HB7⟩
                        case round =>
                          obtain ⟨e, fb3, he, rfl, rfl, hin3, hB3⟩ := hrel
                          by_cases heq : e < q
                          · have hc1 := (hB3.out.cell (p := ⟨gx, e, none⟩) hgl).trans (HCL.out e heq)
                            have hnb1 : 0 ≤ (needL 0 ys q).getD e 0 ∧ (needL 0 ys q).getD e 0 ≤ 1000 := by
                              rw [needL_get _ _ heq]; have := absM_bd (ys.getD e 0) (show (0 : Int) < 1000 by omega); omega
                            have hge := HGB.out e
                            have HY : Hid (aboveN m s (needL 0 ys q) e = max ((mget m ((s : Int), (e : Int) + 1)).getD 0 - (needL 0 ys q).getD e 0) 0) := rfl
                            have hle1 := HAL.out s j e (by omega) hsI hjq heq
                            rw [HX2.out] at hle1
                            have hD1 : best = 0 ∨ ¬ (at_ = s ∧ A = j ∧ C = e) ∨ 0 + (if e = j then 0 else aboveN m s (needL 0 ys q) e) = best := by
                              rcases HAC.out with h | ⟨_, _, h⟩
                              · exact .inl h
                              · by_cases hz : at_ = s ∧ A = j ∧ C = e
                                · obtain ⟨h1, h2, h3⟩ := hz
                                  rw [h1, h2, h3, HX2.out] at h
                                  exact .inr (.inr h)
                                · exact .inr (.inl hz)
                            generalize hnj1 : (needL 0 ys q).getD e 0 = ne at hc1 hnb1 HY
                            generalize hgg1 : (mget m ((s : Int), (e : Int) + 1)).getD 0 = g2 at hge HY
                            have HG1 := Lib.hid hgg1
                            have HG' : Hid (∃ Y, aboveN m s (needL 0 ys q) e = Y ∧ 0 ≤ Y ∧ Y ≤ 1000000 ∧ ((0 < Y ∧ g2 = Y + ne ∧ IntKind.i64.wrap Y = Y) ∨ (Y = 0 ∧ g2 - ne ≤ 0 ∧ IntKind.i64.wrap (g2 - ne) = g2 - ne))) := by
                              unfold Hid; rw [HY.out]
                              refine ⟨_, rfl, by omega, by omega, ?_⟩
                              by_cases hq0 : 0 < g2 - ne
                              · exact .inl ⟨by omega, by omega, IntWalk.i64_in _ (by omega)⟩
                              · exact .inr ⟨by omega, by omega, IntWalk.i64_in _ (by omega)⟩
                            obtain ⟨Y, hY1, hY2, hY3, hY4⟩ := HG'.out
                            rw [hY1] at hle1 hD1
                            have HLE := Lib.hid hle1
                            have HD := Lib.hid hD1
                            clear hY1 HG' HY hle1 hD1
                            have he0 : (0 : Int) ≤ (e : Int) := Int.natCast_nonneg _
                            have he8 : (e : Int) < 8 := by omega
                            rcases hY4 with ⟨hY4, rfl, hwY⟩ | ⟨rfl, hY5, hwY⟩
                            all_goals
                              have hBB := hB3.out
                              have hBd := Below.drew hB3.out
                              have hs0 : gx < wr.heap.size := Nat.lt_of_lt_of_le hgl hBB.size
                              have hs1' : w6.heap.size ≤ wr.heap.size := hBB.size
                              clear hnj1 hgg1
                              go_wp2_with fail
                              go_region_held3 (fun w' => w'.cell? ⟨gx, e, none⟩ = some (.int .i64 ne) ∧ Below w6.heap.size w6 w' ∧ gx < w'.heap.size ∧ w6.heap.size ≤ w'.heap.size) (((repeat' apply And.intro) <;> (first | (exact hB.trans (hb.mono (by omega))) | (have hsz := hb.size; omega) | (rw [hb.cell (p := ⟨_, _, none⟩) (by first | assumption | (simp; done))]; assumption) | assumption | (simp [*]; done)))) (first | (go_at_call 19; obtain ⟨hc0, hB, hs0, hs0'⟩ := ‹_ ∧ Below w6.heap.size w6 _ ∧ _›; rw [wrap_small1 e (Nat.le_trans (Nat.le_of_lt heq) (Nat.le_trans hk2 (by decide)))]; refine (tab_get (HT6.out.below hB) (s : Int) ((e : Int) + 1) (wf_small s (Nat.le_trans hs (by decide))) (wf_small1 e (Nat.le_trans (Nat.le_of_lt heq) (Nat.le_trans hk2 (by decide))))).mono ?_; rintro e w1 ⟨rfl, hb⟩; rw [HG1.out]))
                            · obtain ⟨hc0, hB, hs0, hs0'⟩ := ‹_ ∧ Below w6.heap.size w6 _ ∧ _›
                              have HB8 := Lib.hid hB
                              clear hc0 hB hs0 hs0' hBB hBd hB3 hs1' hwY HG1
                              by_cases hej : e = j
                              · obtain rfl : j = e := hej.symm
                                have hle1 : 0 ≤ best := by have := HLE.out; rw [if_pos rfl] at this; omega
                                have hdd := HD.out
                                rw [if_pos rfl] at hdd
                                clear HLE HD
                                cases fb3 with
                                | true =>
                                  go_wp2_with fail
                                  go_roundw
                                  case rel => exact ⟨j + 1, true, by omega, by go_num, rfl, fun _ => rfl, HB8⟩
                                  case measure => simp [intOf]; omega
                                | false =>
                                  have hin4 : ¬ (best = 0 ∨ at_ < s ∨ (at_ = s ∧ A < j) ∨ (at_ = s ∧ A = j ∧ C < j)) := fun h => by have := hin3.out h; cases this
                                  have HIN := Lib.hid hin4
                                  clear hin4 hin3
                                  by_cases hb0 : 0 = best
                                  · exact absurd (Or.inl (by omega)) HIN.out
                                  · have HDD := Lib.hid hdd
                                    clear hdd
                                    go_wp2_with fail
                                    go_roundw
                                    case rel => exact ⟨j + 1, false, by omega, by go_num, rfl, fun h => absurd h (by have := HIN.out; have := HDD.out; omega), HB8⟩
                                    case measure => simp [intOf]; omega
                              · have hejI : ¬ (e : Int) = (j : Int) := fun h => hej (by omega)
                                have hle1 : 0 + Y ≤ best := by have := HLE.out; rw [if_neg hej] at this; omega
                                have hdd := HD.out
                                rw [if_neg hej] at hdd
                                clear HLE HD
                                cases fb3 with
                                | true =>
                                  go_wp2_with fail
                                  go_roundw
                                  case rel => exact ⟨e + 1, true, by omega, by go_num, rfl, fun _ => rfl, HB8⟩
                                  case measure => simp [intOf]; omega
                                | false =>
                                  have hin4 : ¬ (best = 0 ∨ at_ < s ∨ (at_ = s ∧ A < j) ∨ (at_ = s ∧ A = j ∧ C < e)) := fun h => by have := hin3.out h; cases this
                                  have HIN := Lib.hid hin4
                                  clear hin4 hin3
                                  by_cases hb0 : 0 + Y = best
                                  · by_cases hs3 : (s : Int) = at_
                                    · go_wp2_with fail
                                      go_roundw
                                      case rel => exact ⟨e + 1, true, by omega, by go_num, rfl, fun _ => rfl, HB8⟩
                                      case measure => simp [intOf]; omega
                                    · go_wp2_with fail
                                      go_roundw
                                      case rel => exact ⟨e + 1, false, by omega, by go_num, (by first | rfl | simp [hs3]), fun h => absurd h (by have := HIN.out; omega), HB8⟩
                                      case measure => simp [intOf]; omega
                                  · have HDD := Lib.hid hdd
                                    clear hdd
                                    go_wp2_with fail
                                    go_roundw
                                    case rel => exact ⟨e + 1, false, by omega, by go_num, rfl, fun h => absurd h (by have := HIN.out; have := HDD.out; omega), HB8⟩
                                    case measure => simp [intOf]; omega
                            · obtain ⟨hc0, hB, hs0, hs0'⟩ := ‹_ ∧ Below w6.heap.size w6 _ ∧ _›
                              have HB8 := Lib.hid hB
                              clear hc0 hB hs0 hs0' hBB hBd hB3 hs1' hwY HG1
                              by_cases hej : e = j
                              · obtain rfl : j = e := hej.symm
                                have hle1 : 0 ≤ best := by have := HLE.out; rw [if_pos rfl] at this; omega
                                have hdd := HD.out
                                rw [if_pos rfl] at hdd
                                clear HLE HD
                                cases fb3 with
                                | true =>
                                  go_wp2_with fail
                                  go_roundw
                                  case rel => exact ⟨j + 1, true, by omega, by go_num, rfl, fun _ => rfl, HB8⟩
                                  case measure => simp [intOf]; omega
                                | false =>
                                  have hin4 : ¬ (best = 0 ∨ at_ < s ∨ (at_ = s ∧ A < j) ∨ (at_ = s ∧ A = j ∧ C < j)) := fun h => by have := hin3.out h; cases this
                                  have HIN := Lib.hid hin4
                                  clear hin4 hin3
                                  by_cases hb0 : 0 = best
                                  · exact absurd (Or.inl (by omega)) HIN.out
                                  · have HDD := Lib.hid hdd
                                    clear hdd
                                    go_wp2_with fail
                                    go_roundw
                                    case rel => exact ⟨j + 1, false, by omega, by go_num, rfl, fun h => absurd h (by have := HIN.out; have := HDD.out; omega), HB8⟩
                                    case measure => simp [intOf]; omega
                              · have hejI : ¬ (e : Int) = (j : Int) := fun h => hej (by omega)
                                have hle1 : 0 + 0 ≤ best := by have := HLE.out; rw [if_neg hej] at this; omega
                                have hdd := HD.out
                                rw [if_neg hej] at hdd
                                clear HLE HD
                                cases fb3 with
                                | true =>
                                  go_wp2_with fail
                                  go_roundw
                                  case rel => exact ⟨e + 1, true, by omega, by go_num, rfl, fun _ => rfl, HB8⟩
                                  case measure => simp [intOf]; omega
                                | false =>
                                  have hin4 : ¬ (best = 0 ∨ at_ < s ∨ (at_ = s ∧ A < j) ∨ (at_ = s ∧ A = j ∧ C < e)) := fun h => by have := hin3.out h; cases this
                                  have HIN := Lib.hid hin4
                                  clear hin4 hin3
                                  by_cases hb0 : 0 + 0 = best
                                  · exact absurd (Or.inl (by omega)) HIN.out
                                  · have HDD := Lib.hid hdd
                                    clear hdd
                                    go_wp2_with fail
                                    go_roundw
                                    case rel => exact ⟨e + 1, false, by omega, by go_num, rfl, fun h => absurd h (by have := HIN.out; have := HDD.out; omega), HB8⟩
                                    case measure => simp [intOf]; omega
                          · obtain rfl : e = q := by omega
                            go_wp2_with fail
                            go_roundw
                            case rel => exact ⟨j + 1, fb3, by omega, by go_num, rfl, fun h => hin3.out (by have := HAq.out; omega), hB3⟩
                            case measure => simp [intOf]; omega
                    · obtain rfl : j = q := by omega
                      go_wp2_with fail
                      go_roundw
                      case rel => exact ⟨s + 1, fb2, by omega, by omega, by go_num, rfl, fun h => hin2.out (by have := HAq.out; omega), hB2⟩
                      case measure => simp [intOf]; omega
                · obtain rfl : s = 17 := by omega
                  obtain rfl : fb = true := hin.out (.inr (by omega))
                  go_wp2_with fail
                  go_ret
                  exact ⟨rfl, HB6.out.trans (hB.out.mono HB6.out.size)⟩

end Go.Proofs.YtclhajcphnpgjaaDoor
