/- op.Number: what a word says. strconv.ParseInt and slices.Index of texts at this seat. -/
import Derived.Test.YtchbkceconlbkaaGreatDoorOpText
import Derived.Test.YtchbkceconlbkaaGreatDoorNumLaw
import Derived.Test.YtchbkceconlbkaaGreatDoorStrs2
namespace Go.Proofs.YtchbkceconlbkaaGreatDoor
open Go Go.RowKit
set_option linter.unusedSimpArgs false
set_option linter.unusedVariables false

/-- The library's variables, strconv's two errors too. -/
structure ParW (B : Nat) (w : World) : Prop where
  op : OpW B w
  gsyn : 23 < B
  grng : 24 < B
  syn : ∃ t v, w.cell? ⟨23, 0, none⟩ = some (.iface t v)
  rng : ∃ t v, w.cell? ⟨24, 0, none⟩ = some (.iface t v)
theorem ParW.below {B : Nat} {w w' : World} (h : ParW B w) (k : Below B w w') : ParW B w' :=
  ⟨h.op.below k, h.gsyn, h.grng, by
    obtain ⟨t, v, hv⟩ := h.syn
    exact ⟨t, v, (k.cell (p := ⟨23, 0, none⟩) h.gsyn).trans hv⟩, by
    obtain ⟨t, v, hv⟩ := h.rng
    exact ⟨t, v, (k.cell (p := ⟨24, 0, none⟩) h.grng).trans hv⟩⟩
theorem ParW.on {B : Nat} {w w' : World} (h : ParW B w) (k : Below w.heap.size w w') : ParW B w' := h.below (k.mono h.op.size)

/-- What strconv.ParseInt says: a number; whether it is one. -/
def parseN (l : List UInt8) : Int × Bool :=
  match Lib.parseIntB 64 l with
  | .ok v => (v, true)
  | .syntax => (0, false)
  | .range => (Lib.intSat 64 l, false)
set_option maxHeartbeats 2000000 in
theorem parseInt_calls {B : Nat} {w : World} (hT : ParW B w) (s : ByteArray) (hs : s.size ≤ 281474976710656) :
    Calls Tryz.prog 64 #[.string s, .int .i64 10, .int .i64 64] w fun e w' => ∃ er, e = .returned (.tuple #[.int .i64 (parseN s.data.toList).1, er]) ∧ (((parseN s.data.toList).2 = true ∧ er = .nilIface) ∨ ((parseN s.data.toList).2 = false ∧ ∃ t a, er = .iface t (.pointer (some a)))) ∧ Below w.heap.size w w' := by
  unfold parseN
  cases hp : Lib.parseIntB 64 s.data.toList with
  | ok v =>
    refine (Any.strconv_ParseInt_10_at64_ok Tryz.laysParseInt s (by omega) v hp w).mono ?_
    rintro e w' ⟨rfl, h⟩
    refine ⟨_, rfl, .inl ⟨rfl, rfl⟩, ?_⟩
    rcases h with rfl | ⟨t, rfl⟩
    · exact Below.refl _ _
    · exact Lib.bytesWorld_below _ _ _
  | «syntax» =>
    obtain ⟨t, v, hv⟩ := hT.syn
    refine (Any.strconv_ParseInt_10_at64_syntax Tryz.laysParseInt s hs hp (.iface t v) w hv (.inr ⟨t, v, rfl⟩)).mono ?_
    rintro e w' ⟨N, rfl, h1, h2, h3⟩
    exact ⟨_, rfl, .inr ⟨rfl, _, _, rfl⟩, h3⟩
  | range =>
    obtain ⟨t, v, hv⟩ := hT.rng
    refine (Any.strconv_ParseInt_10_at64_range Tryz.laysParseInt s hs hp (.iface t v) w hv (.inr ⟨t, v, rfl⟩)).mono ?_
    rintro e w' ⟨N, rfl, h1, h2, h3⟩
    exact ⟨_, rfl, .inr ⟨rfl, _, _, rfl⟩, h3⟩
theorem parseN_lt (l : List UInt8) (h : (parseN l).2 = true) : (parseN l).1 ≤ 9223372036854775807 := by
  unfold parseN at h ⊢
  cases hp : Lib.parseIntB 64 l with
  | ok v =>
    simp only
    unfold Lib.parseIntB at hp
    cases l with
    | nil => cases hp
    | cons c r =>
      simp only at hp
      split at hp
      · cases hp
      · cases hp
      · split at hp
        · cases hp
        · split at hp
          · cases hp
          · rename_i u _ h1 h2
            cases hp
            split
            · omega
            · rename_i h3
              have : ¬ 2 ^ (64 - 1) ≤ u := fun h => h1 ⟨h3, h⟩
              omega
  | «syntax» => rw [hp] at h; cases h
  | range => rw [hp] at h; cases h
theorem numW_parse (l : List UInt8) (h : l.length ≤ 18) : numW l = ((parseN l).1, (parseN l).2 && (decide (0 ≤ (parseN l).1) && decide (Lib.itoa (parseN l).1 = l))) := by
  unfold numW parseN
  rw [if_neg (by omega)]
  cases Lib.parseIntB 64 l <;> rfl
theorem itoaB_eq (n : Int) (s : ByteArray) : ((itoaB n).toList == s.toList) = decide (Lib.itoa n = s.data.toList) := by
  rw [Bool.eq_iff_iff, Lib.bytes_beq_iff, decide_eq_true_eq]
  constructor
  · rintro rfl; rfl
  · intro h
    unfold itoaB
    rw [h]

set_option maxHeartbeats 1000000 in
set_option maxRecDepth 100000 in
theorem opNumber_calls {B : Nat} {w : World} (hT : ParW B w) (s : ByteArray) (hs : s.size ≤ 281474976710656) :
    Calls Tryz.prog 47 #[.string s] w fun e w' => e = .returned (.tuple #[.int .i64 (numW s.data.toList).1, .bool (numW s.data.toList).2]) ∧ Below w.heap.size w w' := by
  have hsz : s.data.toList.length = s.size := rfl
  by_cases h18 : 18 < s.size
  · have hn : numW s.data.toList = (0, false) := by unfold numW; rw [if_pos (by omega)]
    rw [hn]
    have hd : decide ((s.size : Int) > 18) = true := decide_eq_true (by omega)
    clear hsz hT hn
    go_enter Tryz.func47, Tryz.ntmps47
    go_wp2_with fail
    refine bodyPost_ret (v := .tuple #[.int .i64 0, .bool false]) (by simp [results, Tryz.results47, go_sem]) rfl ⟨rfl, Below.refl _ _⟩
  · have hd : decide ((s.size : Int) > 18) = false := decide_eq_false (by omega)
    rw [numW_parse _ (by omega)]
    have HC := Lib.hid (parseInt_calls hT s hs)
    have HT := Lib.hid hT
    have HL := Lib.hid (parseN_lt s.data.toList)
    have HI := Lib.hid (fun n => itoaB_eq n s)
    clear hT hsz h18
    generalize hpn : parseN s.data.toList = pn at HC HL ⊢
    obtain ⟨n, ok⟩ := pn
    clear hpn
    dsimp only [] at HC HL ⊢
    cases ok with
    | false =>
      go_enter Tryz.func47, Tryz.ntmps47
      go_wp2_with fail
      refine HC.out.mono ?_
      rintro e w1 ⟨er, rfl, h, hb⟩
      rcases h with ⟨h, _⟩ | ⟨_, t, ad, rfl⟩
      · cases h
      have HB := Lib.hid hb
      clear hb
      go_wp2_with fail
      refine bodyPost_ret (v := .tuple #[.int .i64 n, .bool false]) (by simp [results, Tryz.results47, go_sem]) rfl ⟨by simp, HB.out⟩
    | true =>
      by_cases h0 : 0 ≤ n
      · have hd0 : decide (n ≥ 0) = true := decide_eq_true h0
        have hlt := HL.out rfl
        go_enter Tryz.func47, Tryz.ntmps47
        go_wp2_with fail
        refine HC.out.mono ?_
        rintro e w1 ⟨er, rfl, h, hb⟩
        rcases h with ⟨_, rfl⟩ | ⟨h, _⟩
        case inr => cases h
        have HF := Lib.hid (formatInt_calls (HT.out.op.on hb) n (by omega) hlt)
        have HB := Lib.hid hb
        clear hb
        go_wp2_with fail
        refine HF.out.mono ?_
        rintro e w2 ⟨rfl, hb⟩
        have HB := Lib.hid (bbase HB.out hb)
        clear hb
        go_wp2_with fail
        refine bodyPost_ret (v := .tuple #[.int .i64 n, .bool ((itoaB n).toList == s.toList)]) (by simp [results, Tryz.results47, go_sem]) rfl ⟨by rw [HI.out]; simp [h0], HB.out⟩
      · have hd0 : decide (n ≥ 0) = false := decide_eq_false h0
        go_enter Tryz.func47, Tryz.ntmps47
        go_wp2_with fail
        refine HC.out.mono ?_
        rintro e w1 ⟨er, rfl, h, hb⟩
        rcases h with ⟨_, rfl⟩ | ⟨h, _⟩
        case inr => cases h
        have HB := Lib.hid hb
        clear hb
        go_wp2_with fail
        refine bodyPost_ret (v := .tuple #[.int .i64 n, .bool false]) (by simp [results, Tryz.results47, go_sem]) rfl ⟨by rw [decide_eq_false (show ¬ 0 ≤ n by omega)]; rfl, HB.out⟩
end Go.Proofs.YtchbkceconlbkaaGreatDoor
