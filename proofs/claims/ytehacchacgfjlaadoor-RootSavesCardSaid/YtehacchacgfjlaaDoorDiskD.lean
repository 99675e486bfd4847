/- A disk seen as its sectors' bytes: what was flushed (a function), what is pending (a list); each method's contract in these words. -/
import Derived.Test.YtehacchacgfjlaaDoorDiskFirst
import Derived.Test.YtehacchacgfjlaaDoorSee
namespace Go.Proofs.YtehacchacgfjlaaDoor
open Go.Maps
open Go Go.RowKit
set_option linter.unusedSimpArgs false
set_option linter.unusedVariables false

/-- Pending sectors: number, bytes. -/
abbrev PenL := List (Int × List Int)
abbrev secB (x : Int × (Value × List Int)) : Int × List Int := (x.1, x.2.2)
def zeroS (_ : Int) : List Int := List.replicate 128 0
/-- What a sector has. -/
def rdS (f : Int → List Int) (P : PenL) (i : Int) : List Int := (mget P i).getD (f i)
def keysA (P : PenL) : List Int := (P.map (·.1)).mergeSort leI
theorem mget_secB (P : SecL) (i : Int) : mget (P.map secB) i = (mget P i).map (·.2) := by
  induction P with
  | nil => rfl
  | cons x P ih =>
    simp only [mget, List.map_cons, List.find?_cons] at ih ⊢
    by_cases e : x.1 = i
    · simp [e]
    · simp only [e, decide_false]; exact ih
theorem mput_secB (P : SecL) (i : Int) (v : Value) (bs : List Int) : (mput P i (v, bs)).map secB = mput (P.map secB) i bs := by
  unfold mput
  rw [mget_secB]
  simp only [Option.isSome_map]
  split
  · rw [List.map_map, List.map_map]
    refine List.map_congr_left fun x _ => ?_
    simp only [Function.comp_apply]
    split <;> rfl
  · rw [List.map_append]; rfl
theorem keysA_secB (P : SecL) : keysA (P.map secB) = keysS P := by
  unfold keysA keysS
  rw [List.map_map]; rfl
theorem rdS_secB {F P : SecL} {f : Int → List Int} (hf : ∀ i, secOf F i = f i) (i : Int) : rdS f (P.map secB) i = secNow F P i := by
  unfold rdS secNow
  rw [mget_secB, hf i]
theorem rdS_nil (f : Int → List Int) (i : Int) : rdS f [] i = f i := rfl
theorem rdS_put (f : Int → List Int) (P : PenL) (i j : Int) (bs : List Int) : rdS f (mput P i bs) j = if j = i then bs else rdS f P j := by
  unfold rdS
  by_cases h : j = i
  · subst h; rw [mget_mput_same, if_pos rfl]; rfl
  · rw [mget_mput_other _ _ h, if_neg h]
theorem secOf_rdS (P : SecL) (i : Int) : secOf P i = rdS zeroS (P.map secB) i := by
  unfold rdS secOf zeroS
  rw [mget_secB]

/-- A disk at block d of n sectors: f was flushed, P is pending; its maps at fb, pb; no block of its own lies below lo. -/
def DA (lo : Nat) (w : World) (d fb pb : Nat) (n : Nat) (f : Int → List Int) (P : PenL) (calls fuse : Int) (down : Bool) : Prop :=
  ∃ F P0, Dsk lo w d (n : Int) fb pb F P0 calls fuse down ∧ (∀ i, secOf F i = f i) ∧ P0.map secB = P ∧ SecIn n P0

theorem RdB.ne_noByte {w : World} {v : Value} {bs : List Int} {b : Nat} (h : RdB w v bs) (hl : bs.length = 128) (hb : NoByte w b) : ∀ g, v.ownBlock = some g → g ≠ b := by
  intro g hg e
  subst e
  rcases h with ⟨rfl, h0⟩ | ⟨g', off, cap, rfl, _, _, _, h4⟩
  · rw [h0] at hl; cases hl
  · simp only [Value.ownBlock, Option.some.injEq] at hg
    subst hg
    exact hb _ _ (h4 0 (by omega))
section
variable {lo : Nat} {w w' : World} {d fb pb n : Nat} {f : Int → List Int} {P : PenL} {calls fuse : Int} {down : Bool}
theorem Dsk.keep {F P0 : SecL} {n : Int} {S : Nat → Prop} (h : Dsk lo w d n fb pb F P0 calls fuse down) (k : Keep S w w') (h1 : ¬ S d) (h2 : ¬ S fb) (h3 : ¬ S pb) (hv : ∀ x, x ∈ F ∨ x ∈ P0 → ∀ g, x.2.1.ownBlock = some g → ¬ S g) : Dsk lo w' d n fb pb F P0 calls fuse down := by
  have hl := h.lt
  have hc : ∀ o u, w.cell? ⟨d, o, none⟩ = some u → w'.cell? ⟨d, o, none⟩ = some u := fun o u hu => (k.cell (x := ⟨d, o, none⟩) hl h1).trans hu
  exact ⟨hc _ _ h.c0, hc _ _ h.c1, hc _ _ h.c2, hc _ _ h.c3, hc _ _ h.c4, hc _ _ h.c5, fun o => (k.frozen (x := ⟨d, o, none⟩) hl h1).trans (h.free o), h.fl.keep k h2 (fun x hx => hv x (.inl hx)), h.pe.keep k h3 (fun x hx => hv x (.inr hx)), h.lo_, h.ne, h.ap, h.nb.of_cell fun o => k.cell (x := ⟨d, o, none⟩) hl h1⟩
theorem DA.below (h : DA lo w d fb pb n f P calls fuse down) (k : Below w.heap.size w w') : DA lo w' d fb pb n f P calls fuse down := by
  obtain ⟨F, P0, h1, h2⟩ := h
  exact ⟨F, P0, h1.below k, h2⟩
/-- Behind stores into blocks that are not the disk's and hold no bytes, or are new. -/
theorem DA.keep {S : Nat → Prop} (h : DA lo w d fb pb n f P calls fuse down) (k : Keep S w w') (h1 : ¬ S d) (h2 : ¬ S fb) (h3 : ¬ S pb) (hv : ∀ b, S b → b < w.heap.size → NoByte w b) : DA lo w' d fb pb n f P calls fuse down := by
  obtain ⟨F, P0, hD, h4⟩ := h
  refine ⟨F, P0, hD.keep k h1 h2 h3 (fun x hx g hg hs => ?_), h4⟩
  have hr : RdB w x.2.1 x.2.2 ∧ x.2.2.length = 128 := hx.elim (hD.fl.rd x) (hD.pe.rd x)
  exact hr.1.ne_noByte hr.2 (hv g hs (hr.1.blk g hg)) g hg rfl
theorem DA.lt (h : DA lo w d fb pb n f P calls fuse down) : d < w.heap.size ∧ fb < w.heap.size ∧ pb < w.heap.size := by
  obtain ⟨F, P0, h1, _⟩ := h
  exact ⟨h1.lt, h1.fl.map.lt fb rfl, h1.pe.map.lt pb rfl⟩
theorem DA.low (h : DA lo w d fb pb n f P calls fuse down) : lo ≤ d ∧ lo ≤ fb ∧ lo ≤ pb := by
  obtain ⟨F, P0, h1, _⟩ := h
  exact h1.lo_
theorem DA.len (h : DA lo w d fb pb n f P calls fuse down) (i : Int) : (f i).length = 128 ∧ (rdS f P i).length = 128 := by
  obtain ⟨F, P0, h1, h2, rfl, _⟩ := h
  have e1 : (secOf F i).length = 128 := by
    unfold secOf
    cases hg : mget F i with
    | none => simp
    | some x => exact (h1.fl.rd _ (mget_mem hg)).2
  refine ⟨by rw [← h2 i]; exact e1, ?_⟩
  rw [rdS_secB h2]
  unfold secNow
  cases hg : mget P0 i with
  | none => simpa using e1
  | some x => exact (h1.pe.rd _ (mget_mem hg)).2
/-- What stays where a disk's own blocks alone are written. -/
theorem DA.out {S : Nat → Prop} (h : DA lo w d fb pb n f P calls fuse down) (k : Keep S w w') (hlo : lo ≤ w.heap.size) (hs : ∀ x, S x → x = d ∨ x = fb ∨ x = pb) : Below lo w w' :=
  k.below hlo fun z hz e => by
    have := h.low
    rcases hs z e with rfl | rfl | rfl <;> omega
theorem da_new (n : Nat) (h1 : 1 ≤ n) (h2 : n ≤ 8192) (w : World) :
    Calls Tryd.prog 17 #[.int .i64 n] w fun e w' => e = .returned (.tuple #[.pointer (some ⟨w.heap.size + 2, 0, none⟩), .nilIface]) ∧ DA w.heap.size w' (w.heap.size + 2) w.heap.size (w.heap.size + 1) n zeroS [] 0 0 false ∧ Below w.heap.size w w' := by
  refine (new_calls n (by omega) (by omega) w).mono ?_
  rintro e w1 ⟨rfl, hD, hb⟩
  exact ⟨rfl, ⟨[], [], hD, fun i => rfl, rfl, SecIn.nil n⟩, hb⟩
theorem da_write (h : DA lo w d fb pb n f P calls fuse down) (hn : n ≤ 8192) (hfu : fuse ≤ 4611686018427387904) (hG : goneD fuse down = false) (i : Int) (h0 : 0 ≤ i) (h1 : i < n) (hcb : 0 ≤ calls ∧ calls ≤ 1000000) {v : Value} {bs : List Int} (hv : RdB w v bs) (hlen : bs.length = 128) (hvd : ∀ g, v.ownBlock = some g → g ≠ d) :
    Calls Tryd.prog 18 #[.pointer (some ⟨d, 0, none⟩), .int .i64 i, v] w fun e w' => e = .returned .nilIface ∧ DA lo w' d fb pb n f (mput P i bs) (calls + 1) (goneF fuse down) false ∧ Keep (fun x => x = d ∨ x = pb) w w' := by
  obtain ⟨F, P0, hD, hf, rfl, hS⟩ := h
  refine (write_ok hD hfu hG i h0 h1 (by omega) hcb hv hlen hvd).mono ?_
  rintro e w1 ⟨rfl, v1, hD1, _, hk⟩
  exact ⟨rfl, ⟨F, _, hD1, hf, mput_secB P0 i v1 bs, hS.put h0 h1⟩, hk⟩
theorem da_flush (h : DA lo w d fb pb n f P calls fuse down) (hn : n ≤ 8192) (hfu : fuse ≤ 4611686018427387904) (hG : goneD fuse down = false) (hcb : 0 ≤ calls ∧ calls ≤ 1000000) (hlo : lo ≤ w.heap.size) :
    Calls Tryd.prog 23 #[.pointer (some ⟨d, 0, none⟩)] w fun e w' => e = .returned .nilIface ∧ ∃ pb', DA lo w' d fb pb' n (rdS f P) [] (calls + 1) (goneF fuse down) false ∧ w.heap.size ≤ pb' ∧ Keep (fun x => x = d ∨ x = fb) w w' := by
  obtain ⟨F, P0, hD, hf, rfl, hS⟩ := h
  refine (flush_ok hD hfu hG hcb (hS.wf hn) hlo).mono ?_
  rintro e w1 ⟨rfl, F', pb', hD1, hg, _, hp, hk⟩
  refine ⟨rfl, pb', ⟨F', [], hD1, fun i => ?_, rfl, SecIn.nil n⟩, hp, hk⟩
  rw [rdS_secB hf]
  unfold secOf secNow
  rw [hg i]
  cases mget P0 i <;> rfl
theorem da_crash (h : DA lo w d fb pb n f P calls fuse down) (hn : n ≤ 8192) (hlo : lo ≤ w.heap.size) {v : Value} {qs : List Int} (hv : RdK .i64 w v qs) (hq : ∀ q ∈ qs, -9223372036854775808 ≤ q ∧ q ≤ 9223372036854775807) :
    Calls Tryd.prog 24 #[.pointer (some ⟨d, 0, none⟩), v] w fun e w' => e = .returned (.tuple #[]) ∧ ∃ pb', DA lo w' d fb pb' n (crashTo (rdS zeroS P) (keysA P) qs f) [] calls 0 false ∧ w.heap.size ≤ pb' ∧ Keep (fun x => x = d ∨ x = fb) w w' := by
  obtain ⟨F, P0, hD, hf, rfl, hS⟩ := h
  refine (crash_calls hD hlo (hS.wf hn) (Nat.le_trans (hS.len hD.pe) (by omega)) hv hq).mono ?_
  rintro e w1 ⟨rfl, F', pb', hD1, hg, _, hp, hk⟩
  refine ⟨rfl, pb', ⟨F', [], hD1, fun i => ?_, rfl, SecIn.nil n⟩, hp, hk⟩
  rw [hg i, keysA_secB, show secOf P0 = rdS zeroS (P0.map secB) from funext (secOf_rdS P0), show secOf F = f from funext hf]
theorem da_read (h : DA lo w d fb pb n f P calls fuse false) (hn : n ≤ 8192) (i : Int) (h0 : 0 ≤ i) (h1 : i < n) :
    Calls Tryd.prog 25 #[.pointer (some ⟨d, 0, none⟩), .int .i64 i] w fun e w' => ∃ v, e = .returned (.tuple #[v, .nilIface]) ∧ OwnB w.heap.size w' v (rdS f P i) ∧ Below w.heap.size w w' := by
  obtain ⟨F, P0, hD, hf, rfl, hS⟩ := h
  refine (read_ok hD i h0 h1 (by omega)).mono ?_
  rintro e w1 ⟨v, rfl, hO, _, hb⟩
  exact ⟨v, rfl, by rw [rdS_secB hf]; exact hO, hb⟩
theorem da_pending (h : DA lo w d fb pb n f P calls fuse down) :
    Calls Tryd.prog 20 #[.pointer (some ⟨d, 0, none⟩)] w fun e w' => e = .returned (.int .i64 (P.length : Int)) ∧ w = w' := by
  obtain ⟨F, P0, hD, hf, rfl, hS⟩ := h
  rw [List.length_map]
  exact pending_calls hD
theorem da_calls (h : DA lo w d fb pb n f P calls fuse down) :
    Calls Tryd.prog 21 #[.pointer (some ⟨d, 0, none⟩)] w fun e w' => e = .returned (.int .i64 calls) ∧ w = w' := by
  obtain ⟨F, P0, hD, hf, rfl, hS⟩ := h
  exact diskCalls_calls hD
theorem da_down (h : DA lo w d fb pb n f P calls fuse down) :
    Calls Tryd.prog 28 #[.pointer (some ⟨d, 0, none⟩)] w fun e w' => e = .returned (.bool down) ∧ w = w' := by
  obtain ⟨F, P0, hD, hf, rfl, hS⟩ := h
  exact down_calls hD
theorem da_arm (h : DA lo w d fb pb n f P calls fuse down) (k : Int) :
    Calls Tryd.prog 27 #[.pointer (some ⟨d, 0, none⟩), .int .i64 k] w fun e w' => e = .returned (.tuple #[]) ∧ DA lo w' d fb pb n f P calls (if k < 0 then 0 else k) down ∧ Keep (fun x => x = d) w w' := by
  obtain ⟨F, P0, hD, hf, rfl, hS⟩ := h
  refine (arm_calls hD k).mono ?_
  rintro e w1 ⟨rfl, hD1, hk⟩
  exact ⟨rfl, ⟨F, P0, hD1, hf, rfl, hS⟩, hk⟩
theorem da_write_gone {ks : List Nat} {B : Nat} {p : Nat → Addr} (hE : Errs ks B p w) (h8 : 8 ∈ ks) (h : DA lo w d fb pb n f P calls fuse down) (hB : B ≤ lo) (hf : fuse ≤ 4611686018427387904) (hg : goneD fuse down = true) (i v : Value) :
    Calls Tryd.prog 18 #[.pointer (some ⟨d, 0, none⟩), i, v] w fun e w' => e = .returned (ev p 8) ∧ DA lo w' d fb pb n f P calls (goneF fuse down) true ∧ Keep (fun x => x = d) w w' := by
  obtain ⟨F, P0, hD, hf', rfl, hS⟩ := h
  refine (write_gone hE h8 hD (Nat.le_trans hB hD.lo_.1) hf hg i v).mono ?_
  rintro e w1 ⟨rfl, hD1, hk⟩
  exact ⟨rfl, ⟨F, P0, hD1, hf', rfl, hS⟩, hk⟩
theorem da_flush_gone {ks : List Nat} {B : Nat} {p : Nat → Addr} (hE : Errs ks B p w) (h8 : 8 ∈ ks) (h : DA lo w d fb pb n f P calls fuse down) (hB : B ≤ lo) (hf : fuse ≤ 4611686018427387904) (hg : goneD fuse down = true) :
    Calls Tryd.prog 23 #[.pointer (some ⟨d, 0, none⟩)] w fun e w' => e = .returned (ev p 8) ∧ DA lo w' d fb pb n f P calls (goneF fuse down) true ∧ Keep (fun x => x = d) w w' := by
  obtain ⟨F, P0, hD, hf', rfl, hS⟩ := h
  refine (flush_gone hE h8 hD (Nat.le_trans hB hD.lo_.1) hf hg).mono ?_
  rintro e w1 ⟨rfl, hD1, hk⟩
  exact ⟨rfl, ⟨F, P0, hD1, hf', rfl, hS⟩, hk⟩
theorem da_read_down {ks : List Nat} {B : Nat} {p : Nat → Addr} (hE : Errs ks B p w) (h8 : 8 ∈ ks) (h : DA lo w d fb pb n f P calls fuse true) (i : Int) :
    Calls Tryd.prog 25 #[.pointer (some ⟨d, 0, none⟩), .int .i64 i] w fun e w' => e = .returned (.tuple #[.slice none 0 0, ev p 8]) ∧ Below w.heap.size w w' := by
  obtain ⟨F, P0, hD, hf', rfl, hS⟩ := h
  exact read_down hE h8 hD i
theorem da_write_full {ks : List Nat} {B : Nat} {p : Nat → Addr} (hE : Errs ks B p w) (h7 : 7 ∈ ks) (h : DA lo w d fb pb n f P calls fuse down) (hB : B ≤ lo) (hf : fuse ≤ 4611686018427387904) (hg : goneD fuse down = false) (i : Int) (hi : i < 0 ∨ (n : Int) ≤ i) (v : Value) :
    Calls Tryd.prog 18 #[.pointer (some ⟨d, 0, none⟩), .int .i64 i, v] w fun e w' => e = .returned (ev p 7) ∧ DA lo w' d fb pb n f P calls (goneF fuse down) false ∧ Keep (fun x => x = d) w w' := by
  obtain ⟨F, P0, hD, hf', rfl, hS⟩ := h
  refine (write_full hE h7 hD hf hg (Nat.le_trans hB hD.lo_.1) i hi v).mono ?_
  rintro e w1 ⟨rfl, hD1, hk⟩
  exact ⟨rfl, ⟨F, P0, hD1, hf', rfl, hS⟩, hk⟩
end
end Go.Proofs.YtehacchacgfjlaaDoor
