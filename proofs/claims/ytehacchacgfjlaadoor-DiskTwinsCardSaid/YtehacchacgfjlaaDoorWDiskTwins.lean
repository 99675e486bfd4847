/- The walk of pledgelaw5.DiskTwins: it returns true, and writes nothing that was there. -/
import Derived.Test.YtehacchacgfjlaaDoorDiskE
namespace Go.Proofs.YtehacchacgfjlaaDoor
open Go.Maps
open Go Go.RowKit
set_option linter.unusedSimpArgs false
set_option linter.unusedVariables false

/-- A slice of numbers that came in, as a list. -/
theorem IsRow.list {w : World} {a : Option Addr} {len cap : Nat} {zs : List Int} (h : IsRow .i64 w a len cap zs) :
    ∃ qs, RdK .i64 w (.slice a len cap) qs ∧ qs.length = len ∧ (∀ z ∈ qs, -9223372036854775808 ≤ z ∧ z ≤ 9223372036854775807) := by
  refine ⟨zs.take len, h.rdK, ?_, fun z hz => ?_⟩
  · rcases h with ⟨_, h0, _⟩ | ⟨x, _, h1, _, h3, _⟩
    · rw [h0]; rfl
    · rw [List.length_take]; omega
  · rcases h with ⟨_, _, _, h0⟩ | ⟨x, _, _, _, _, _, h5⟩
    · rw [h0] at hz; simp at hz
    · exact bounds_i64 (h5 z (List.mem_of_mem_take hz))
/-- What holds ahead of write k: the disk, and its twin that is apart. -/
def TwinSt (base : Nat) (w0 wq : World) (d fb x xf xp : Nat) (k : Nat) : Prop :=
  ∃ pb f P calls, DA base wq d fb pb 8 f P calls 0 false ∧ DA base wq x xf xp 8 zeroS [] 0 0 false ∧ 0 ≤ calls ∧ calls ≤ 2 * k ∧ pb ≠ x ∧ pb ≠ xf ∧ pb ≠ xp ∧ Below w0.heap.size w0 wq
set_option maxHeartbeats 8000000 in
set_option maxRecDepth 100000 in
theorem walk_DiskTwins {ks : List Nat} {p : Nat → Addr} {w : World} (hE : Errs ks w.heap.size p w) (la : Option Addr) (llen lcap : Nat) (lz : List Int) (pk : Option Addr) (len cap : Nat) (zs : List Int) (lrow : IsRow .i64 w la llen lcap lz) (hrow : IsRow .i64 w pk len cap zs) :
    Calls Tryd.prog 7 #[.slice la llen lcap, .slice pk len cap] w fun e w' => e = .returned (.bool true) ∧ Below w.heap.size w w' := by
  clear hE
  obtain ⟨ls, l1, l2, l3⟩ := lrow.list
  obtain ⟨qs, q1, q2, q3⟩ := hrow.list
  subst l2
  subst q2
  have HL := Lib.hid l1
  have HRQ := Lib.hid q1
  have HQB := Lib.hid q3
  clear l1 q1 q3 l3 lrow hrow
  go_enter Tryd.func7, Tryd.ntmps7
  have HB : Hid (Below w.heap.size w w) := Below.refl _ _
  go_wp2_with fail
  refine (first5_calls _).mono ?_
  rintro e w1 ⟨rfl, hb⟩
  replace HB := Lib.hid (HB.out.trans (hb.mono HB.out.size))
  clear hb
  by_cases hll : 20 < ls.length
  · go_wp2_with fail
    go_ret
    exact ⟨rfl, HB.out⟩
  by_cases hlq : 10 < qs.length
  · go_wp2_with fail
    go_ret
    exact ⟨rfl, HB.out⟩
  have hs1 := HB.out.size
  go_wp2_with fail
  refine (da_new 8 (by decide) (by decide) w1).mono ?_
  rintro e w2 ⟨rfl, hD, hb⟩
  have HD := Lib.hid hD
  have hlt := hD.lt
  replace HB := Lib.hid (HB.out.trans (hb.mono HB.out.size))
  have hs2 := HB.out.size
  clear hD hb
  go_wp2_with fail
  refine (da_new 8 (by decide) (by decide) w2).mono ?_
  rintro e w3 ⟨rfl, hX, hb⟩
  have HS0 : Hid (TwinSt w1.heap.size w w3 (w1.heap.size + 2) w1.heap.size (w2.heap.size + 2) w2.heap.size (w2.heap.size + 1) 0) := by
    refine ⟨w1.heap.size + 1, zeroS, [], 0, HD.out.below hb, ?_, by decide, by decide, by omega, by omega, by omega, HB.out.trans (hb.mono HB.out.size)⟩
    obtain ⟨F, P0, h1, h2⟩ := hX
    exact ⟨F, P0, ⟨h1.c0, h1.c1, h1.c2, h1.c3, h1.c4, h1.c5, h1.free, h1.fl, h1.pe, ⟨by omega, by omega, by omega⟩, h1.ne, h1.ap, h1.nb⟩, h2⟩
  obtain ⟨d, hd⟩ : ∃ d, d = w1.heap.size + 2 := ⟨_, rfl⟩
  obtain ⟨fb, hfb⟩ : ∃ fb, fb = w1.heap.size := ⟨_, rfl⟩
  obtain ⟨x, hx⟩ : ∃ x, x = w2.heap.size + 2 := ⟨_, rfl⟩
  obtain ⟨xf, hxf⟩ : ∃ xf, xf = w2.heap.size := ⟨_, rfl⟩
  obtain ⟨xp, hxp⟩ : ∃ xp, xp = w2.heap.size + 1 := ⟨_, rfl⟩
  obtain ⟨base, hbase⟩ : ∃ base, base = w1.heap.size := ⟨_, rfl⟩
  have HS1 : Hid (TwinSt base w w3 d fb x xf xp 0) := by subst hd hfb hx hxf hxp hbase; exact HS0
  have hord : base ≤ fb ∧ fb < d ∧ d < xf ∧ xf < xp ∧ xp < x ∧ w.heap.size ≤ base := by omega
  rw [← hd, ← hx]
  clear hX hb hd hfb hx hxf hxp HD HB hlt hs2 HS0 hbase hs1
  have HS0 := HS1
  clear HS1
  have hs1 : w.heap.size ≤ base := hord.2.2.2.2.2
  go_wp2_with fail
  go_loopw [10] (fun i wq => ∃ k : Nat, k ≤ ls.length ∧ i = .int .i64 k ∧ Hid (TwinSt base w wq d fb x xf xp k)) (fun i _ => ls.length - (intOf i).toNat)
  case atStart => exact ⟨0, Nat.zero_le _, rfl, HS0⟩
  case round =>
    obtain ⟨k, hk, rfl, hS⟩ := hrel
    clear HS0
    obtain ⟨pb, f, P, calls, hD, hX, hc0, hc1, hp1, hp2, hp3, hB⟩ := hS.out
    have HD := Lib.hid hD
    have HX := Lib.hid hX
    have HB := Lib.hid hB
    have hlD := hD.low
    have hltD := hD.lt
    have hlX := hX.lt
    clear hD hX hB hS
    by_cases hkl : k < ls.length
    · have hRl := HL.out.below HB.out
      obtain ⟨gq, oq, cq, hvq, hq1, hq2, hq3, hq4⟩ : ∃ gq oq cq, Value.slice la ls.length lcap = .slice (some ⟨gq, oq, none⟩) ls.length cq ∧ ls.length ≤ cq ∧ cq ≤ maxLen ∧ gq < wr.heap.size ∧ ∀ i, i < ls.length → wr.cell? ⟨gq, oq + i, none⟩ = some (.int .i64 (ls.getD i 0)) := by
        rcases hRl with ⟨h0, _⟩ | h
        · rw [h0] at hkl; simp at hkl
        · exact h
      simp only [Value.slice.injEq, true_and] at hvq
      obtain ⟨rfl, rfl⟩ := hvq
      have d1 := hq4 k hkl
      generalize ls.getD k 0 = q at d1
      unfold maxLen at hq2
      clear hq4 hRl
      go_wp2_with fail
      refine (number_calls q 8 (by decide) (by decide) _).mono ?_
      rintro e we ⟨rfl, rfl⟩
      have hr0 := Int.emod_nonneg q (show (8 : Int) ≠ 0 by decide)
      have hr1 := Int.emod_lt_of_pos q (show (0 : Int) < 8 by decide)
      generalize q % 8 = r at hr0 hr1 ⊢
      clear d1
      go_wp2_with fail
      refine (whole_calls _ wr).mono ?_
      rintro e w4 ⟨rfl, hR, hb⟩
      have HR := Lib.hid (rowIs_rd hR)
      have HD4 := Lib.hid (HD.out.below hb)
      have HX4 := Lib.hid (HX.out.below hb)
      have HB4 : Hid (Below w.heap.size w w4) := HB.out.trans (hb.mono HB.out.size)
      have hs4 := hb.size
      clear hR hb HD HX HB
      go_wp2_with fail
      refine (da_write HD4.out (by decide) (by decide) rfl r hr0 (by omega) (by omega) HR.out (by simp) (by intro g hg; simp only [Value.ownBlock, Option.some.injEq] at hg; omega)).mono ?_
      rintro e w5 ⟨rfl, hD5, hk5⟩
      rw [show goneF 0 false = 0 from rfl] at hD5
      have HX5 := Lib.hid (HX4.out.apart HD4.out hk5 (fun z hz => hz.elim .inl (fun h => .inr (.inr h))) ⟨by omega, by omega, by omega⟩ ⟨by omega, by omega, by omega⟩ ⟨by omega, by omega, by omega⟩)
      have HB5 : Hid (Below w.heap.size w w5) := HB4.out.trans ((HD4.out.out hk5 (by omega) (fun z hz => hz.elim .inl (fun h => .inr (.inr h)))).mono hs1)
      have HD5 := Lib.hid hD5
      have hl5 := hD5.lt
      have hx5 := HX5.out.lt
      clear hD5 hk5 HD4 HX4 HB4 HR
      have hm0 : 0 ≤ (k : Int) % 4 := Int.emod_nonneg _ (by decide)
      have hm1 : (k : Int) % 4 < 4 := Int.emod_lt_of_pos _ (by decide)
      by_cases h3 : (k : Int) % 4 = 3
      · have h3' : ((k : Int) % 4 == 3) = true := by simp [h3]
        go_wp2_with fail
        refine (da_flush HD5.out (by decide) (by decide) rfl (by omega) (by omega)).mono ?_
        rintro e w6 ⟨rfl, pb6, hD6, hp6, hk6⟩
        rw [show goneF 0 false = 0 from rfl] at hD6
        have HS6 : Hid (TwinSt base w w6 d fb x xf xp (k + 1)) := by
          refine ⟨pb6, _, _, _, hD6, HX5.out.apart HD5.out hk6 (fun z hz => hz.elim .inl (fun h => .inr (.inl h))) ⟨by omega, by omega, by omega⟩ ⟨by omega, by omega, by omega⟩ ⟨by omega, by omega, by omega⟩, by omega, by omega, by omega, by omega, by omega, HB5.out.trans ((HD5.out.out hk6 (by omega) (fun z hz => hz.elim .inl (fun h => .inr (.inl h)))).mono hs1)⟩
        clear hD6 hk6 HD5 HX5 HB5 h3 h3'
        go_wp2_with fail
        go_roundw
        case rel => exact ⟨k + 1, by omega, by go_num, HS6⟩
        case measure => simp [intOf]; omega
      · have h3' : ((k : Int) % 4 == 3) = false := by simpa using h3
        have HS6 : Hid (TwinSt base w w5 d fb x xf xp (k + 1)) := ⟨pb, _, _, _, HD5.out, HX5.out, by omega, by omega, hp1, hp2, hp3, HB5.out⟩
        clear HD5 HX5 HB5 h3
        go_wp2_with fail
        go_roundw
        case rel => exact ⟨k + 1, by omega, by go_num, HS6⟩
        case measure => simp [intOf]; omega
    · obtain rfl : k = ls.length := by omega
      go_wp2_with fail
      refine (da_clone HD.out).mono ?_
      rintro e w6 ⟨rfl, hC, hb⟩
      have HC := Lib.hid hC
      have hbs := hb.size
      replace HB := Lib.hid (HB.out.trans (hb.mono HB.out.size))
      replace HD := Lib.hid (HD.out.below hb)
      replace HX := Lib.hid (HX.out.below hb)
      obtain ⟨cb, hcb⟩ : ∃ cb, cb = wr.heap.size := ⟨_, rfl⟩
      rw [← hcb] at HC ⊢
      have hcc : pb < cb ∧ x < cb ∧ base ≤ cb := by omega
      clear hC hb hbs hcb
      have hcl := HC.out.lt
      go_wp2_with fail
      refine (da_pending HC.out).mono ?_
      rintro e wz ⟨rfl, rfl⟩
      go_wp2_with fail
      refine (da_pending HD.out).mono ?_
      rintro e wz ⟨rfl, rfl⟩
      go_wp2_with fail
      refine (da_calls HC.out).mono ?_
      rintro e wz ⟨rfl, rfl⟩
      go_wp2_with fail
      refine (da_calls HD.out).mono ?_
      rintro e wz ⟨rfl, rfl⟩
      have hRk := HRQ.out.below HB.out
      have hlD6 := HD.out.lt
      go_wp2_with fail
      refine (da_crash HD.out (by decide) (by omega) hRk HQB.out).mono ?_
      rintro e w7 ⟨rfl, pb7, hD, hp7, hk7⟩
      replace HC := Lib.hid (HC.out.apart HD.out hk7 (fun z hz => hz.elim .inl (fun h => .inr (.inl h))) ⟨by omega, by omega, by omega⟩ ⟨by omega, by omega, by omega⟩ ⟨by omega, by omega, by omega⟩)
      replace HX := Lib.hid (HX.out.apart HD.out hk7 (fun z hz => hz.elim .inl (fun h => .inr (.inl h))) ⟨by omega, by omega, by omega⟩ ⟨by omega, by omega, by omega⟩ ⟨by omega, by omega, by omega⟩)
      replace HB := Lib.hid (HB.out.trans ((HD.out.out hk7 (by omega) (fun z hz => hz.elim .inl (fun h => .inr (.inl h)))).mono hs1))
      replace HD := Lib.hid hD
      clear hD hk7 hRk
      have hRk := HRQ.out.below HB.out
      have hlC7 := HC.out.lt
      go_wp2_with fail
      refine (da_crash HC.out (by decide) (by omega) hRk HQB.out).mono ?_
      rintro e w8 ⟨rfl, pb8, hC, hp8, hk8⟩
      replace HD := Lib.hid (HD.out.apart HC.out hk8 (fun z hz => hz.elim .inl (fun h => .inr (.inl h))) ⟨by omega, by omega, by omega⟩ ⟨by omega, by omega, by omega⟩ ⟨by omega, by omega, by omega⟩)
      replace HX := Lib.hid (HX.out.apart HC.out hk8 (fun z hz => hz.elim .inl (fun h => .inr (.inl h))) ⟨by omega, by omega, by omega⟩ ⟨by omega, by omega, by omega⟩ ⟨by omega, by omega, by omega⟩)
      replace HB := Lib.hid (HB.out.trans ((HC.out.out hk8 (by omega) (fun z hz => hz.elim .inl (fun h => .inr (.inl h)))).mono (by omega)))
      replace HC := Lib.hid hC
      clear hC hk8 hRk
      generalize crashTo (rdS zeroS P) (keysA P) qs f = fE at HD HC
      go_wp2_with fail
      go_loopw [12] (fun i wq => ∃ k : Nat, k ≤ 8 ∧ i = .int .i64 k ∧ Hid (DA base wq d fb pb7 8 fE [] calls 0 false) ∧ Hid (DA cb wq cb (cb + 1) pb8 8 fE [] calls 0 false) ∧ Hid (DA base wq x xf xp 8 zeroS [] 0 0 false) ∧ Hid (Below w.heap.size w wq)) (fun i _ => 8 - (intOf i).toNat)
      case atStart => exact ⟨0, by decide, rfl, HD, HC, HX, HB⟩
      case round =>
        clear HD HC HX HB
        obtain ⟨k, hk8, rfl, HD, HC, HX, HB⟩ := hrel
        by_cases hkl : k < 8
        · go_wp2_with fail
          refine (da_read HD.out (by decide) (k : Int) (by omega) (by omega)).mono ?_
          rintro e wa ⟨va, rfl, hO, hb⟩
          rw [rdS_nil] at hO
          have HLa := Lib.hid hO.rd
          have HE : Hid ((fE (k : Int)).length = 128) := (HD.out.len _).1
          replace HB := Lib.hid (HB.out.trans (hb.mono HB.out.size))
          replace HD := Lib.hid (HD.out.below hb)
          replace HC := Lib.hid (HC.out.below hb)
          replace HX := Lib.hid (HX.out.below hb)
          obtain ⟨aa, ca, rfl⟩ := hO.len
          rw [HE.out]
          clear hO hb
          go_wp2_with fail
          refine (da_read HC.out (by decide) (k : Int) (by omega) (by omega)).mono ?_
          rintro e wb ⟨vb, rfl, hO, hb⟩
          rw [rdS_nil] at hO
          have HLb := Lib.hid hO.rd
          replace HB := Lib.hid (HB.out.trans (hb.mono HB.out.size))
          replace HD := Lib.hid (HD.out.below hb)
          replace HC := Lib.hid (HC.out.below hb)
          replace HX := Lib.hid (HX.out.below hb)
          replace HLa := Lib.hid (HLa.out.below hb)
          obtain ⟨ab, cb', rfl⟩ := hO.len
          rw [HE.out]
          clear hO hb
          go_wp2_with fail
          refine (da_read HX.out (by decide) (k : Int) (by omega) (by omega)).mono ?_
          rintro e wc ⟨vc, rfl, hO, hb⟩
          rw [rdS_nil] at hO
          have HLc : Hid (RdB wc vc (List.replicate 128 0)) := hO.rd
          replace HB := Lib.hid (HB.out.trans (hb.mono HB.out.size))
          replace HD := Lib.hid (HD.out.below hb)
          replace HC := Lib.hid (HC.out.below hb)
          replace HX := Lib.hid (HX.out.below hb)
          replace HLa := Lib.hid (HLa.out.below hb)
          replace HLb := Lib.hid (HLb.out.below hb)
          obtain ⟨ac, cc', hvc, _, _⟩ := HLc.out.len
          rw [List.length_replicate] at hvc
          subst hvc
          clear hO hb
          go_wp2_with fail
          refine (sameBytes_calls (bs := fE (k : Int)) (by have := HLa.out; rwa [HE.out] at this) (by have := HLb.out; rwa [HE.out] at this) (by rw [HE.out]; decide)).mono ?_
          rintro e we ⟨rfl, hb⟩
          replace HB := Lib.hid (HB.out.trans (hb.mono HB.out.size))
          replace HD := Lib.hid (HD.out.below hb)
          replace HC := Lib.hid (HC.out.below hb)
          replace HX := Lib.hid (HX.out.below hb)
          replace HLc := Lib.hid (HLc.out.below hb)
          clear hb HLa HLb
          go_wp2_with fail
          refine (whole_calls 0 _).mono ?_
          rintro e wf ⟨rfl, hR, hb⟩
          have HRf := Lib.hid (rowIs_rd hR)
          replace HB := Lib.hid (HB.out.trans (hb.mono HB.out.size))
          replace HD := Lib.hid (HD.out.below hb)
          replace HC := Lib.hid (HC.out.below hb)
          replace HX := Lib.hid (HX.out.below hb)
          replace HLc := Lib.hid (HLc.out.below hb)
          clear hR hb
          go_wp2_with fail
          refine (sameBytes_calls HLc.out HRf.out (by simp)).mono ?_
          rintro e wg ⟨rfl, hb⟩
          replace HB := Lib.hid (HB.out.trans (hb.mono HB.out.size))
          replace HD := Lib.hid (HD.out.below hb)
          replace HC := Lib.hid (HC.out.below hb)
          replace HX := Lib.hid (HX.out.below hb)
          clear hb HLc HRf
          go_wp2_with fail
          go_roundw
          case rel => exact ⟨k + 1, by omega, by go_num, HD, HC, HX, HB⟩
          case measure => simp [intOf]; omega
        · obtain rfl : k = 8 := by omega
          go_wp2_with fail
          refine (da_calls HX.out).mono ?_
          rintro e wz ⟨rfl, rfl⟩
          go_wp2_with fail
          go_ret
          exact ⟨rfl, HB.out⟩
end Go.Proofs.YtehacchacgfjlaaDoor
