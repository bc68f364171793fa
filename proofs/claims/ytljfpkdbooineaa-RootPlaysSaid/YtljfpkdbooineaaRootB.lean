/-
  Contracts of layer 11 (root), continued: dropping, an entry's word, finding, taking; conditions: as many entries as a right config has.
-/
import Derived.Test.YtljfpkdbooineaaRootA
set_option linter.unusedVariables false
namespace Go.Proofs.Ytljfpkdbooineaa.RootB
open Go.RowKit Go.Proofs.Ytljfpkdbooineaa.PRootPlays Go.Proofs.YtljfpkdbooineaaW.PrintWords Go.Proofs.Ytljfpkdbooineaa.Blk Go.Proofs.Ytljfpkdbooineaa.Core Go.Proofs.Ytljfpkdbooineaa.RootP Go.Proofs.Ytljfpkdbooineaa.RootA
theorem set_slot {w : World} {t b : Nat} {s : Rt} (h : TabB w t b s) {i : Nat} (hi : i < s.n) (x : Int) : TabB (w.setCell ⟨b, i * 2 + 1, none⟩ (.int .i64 x)) t b { s with slot := upd s.slot i x } := by
  obtain ⟨A, c, h1, h2, h3⟩ := h.blk
  obtain ⟨e, cs, h4, h5⟩ := h3 (by omega)
  have ne := h.ne (by omega)
  refine ⟨fun _ => ne, by simpa [World.setCell] using h.lb, A, c, h1.other _ ne _, h2, fun _ => ⟨e, cs.setIfInBounds (i * 2 + 1) (.int .i64 x), h4.set _ _, fun j hj => ?_⟩⟩
  have hl : i * 2 + 1 < cs.size := by
    have := (h5 i hi).2
    rcases Nat.lt_or_ge (i * 2 + 1) cs.size with h | h
    · exact h
    · rw [Array.getElem?_eq_none h] at this; cases this
  rw [Array.getElem?_setIfInBounds, Array.getElem?_setIfInBounds]
  refine ⟨?_, ?_⟩
  · rw [if_neg (by omega)]; exact (h5 j hj).1
  · show _ = some (Value.int .i64 (upd s.slot i x j))
    unfold upd
    by_cases c : j = i
    · subst c; rw [if_pos rfl, if_pos hl, if_pos rfl]
    · rw [if_neg (by omega), if_neg c]; exact (h5 j hj).2
theorem set_tag {w : World} {t b : Nat} {s : Rt} (h : TabB w t b s) {i : Nat} (hi : i < s.n) (x : Int) : TabB (w.setCell ⟨b, i * 2, none⟩ (.int .u64 x)) t b { s with tag := upd s.tag i x } := by
  obtain ⟨A, c, h1, h2, h3⟩ := h.blk
  obtain ⟨e, cs, h4, h5⟩ := h3 (by omega)
  have ne := h.ne (by omega)
  refine ⟨fun _ => ne, by simpa [World.setCell] using h.lb, A, c, h1.other _ ne _, h2, fun _ => ⟨e, cs.setIfInBounds (i * 2) (.int .u64 x), h4.set _ _, fun j hj => ?_⟩⟩
  have hl : i * 2 < cs.size := by
    have := (h5 i hi).1
    rcases Nat.lt_or_ge (i * 2) cs.size with h | h
    · exact h
    · rw [Array.getElem?_eq_none h] at this; cases this
  rw [Array.getElem?_setIfInBounds, Array.getElem?_setIfInBounds]
  refine ⟨?_, ?_⟩
  · show _ = some (Value.int .u64 (upd s.tag i x j))
    unfold upd
    by_cases c : j = i
    · subst c; rw [if_pos rfl, if_pos hl, if_pos rfl]
    · rw [if_neg (by omega), if_neg c]; exact (h5 j hj).1
  · rw [if_neg (by omega)]; exact (h5 j hj).2
def Rt.inn (s : Rt) (i : Int) : Prop := 0 ≤ i ∧ i < s.n
instance (s : Rt) (i : Int) : Decidable (Rt.inn s i) := by unfold Rt.inn; infer_instance
def dropB (s : Rt) (i : Int) : Bool := decide (Rt.inn s i) && decide (0 ≤ s.slot i.toNat)
def dropS (s : Rt) (i : Int) : Rt := if dropB s i = true then { s with slot := upd s.slot i.toNat (-1) } else s
theorem dropB_iff {s : Rt} {i : Int} : dropB s i = true ↔ (0 ≤ i ∧ i < s.n) ∧ 0 ≤ s.slot i.toNat := by
  unfold dropB
  rw [Bool.and_eq_true, decide_eq_true_iff, decide_eq_true_iff]
  exact Iff.rfl
theorem TabB.frozen {w : World} {t b : Nat} {s : Rt} (h : TabB w t b s) (hn : 0 < s.n) (i : Nat) : w.frozen? ⟨b, i, none⟩ = false := by
  obtain ⟨A, c, h1, h2, h3⟩ := h.blk
  obtain ⟨e, cs, h4, h5⟩ := h3 hn
  exact h4.frozen i
theorem TabB.whos {w : World} {t b : Nat} {s : Rt} (h : TabB w t b s) : w.cell? ⟨t, 6, none⟩ = some (.int .i64 s.who) := by
  obtain ⟨A, c, h1, h2, h3⟩ := h.blk
  exact h1.cell (i := 6) rfl
theorem TabB.len {w : World} {t b : Nat} {s : Rt} (h : TabB w t b s) : ∃ A c, w.cell? ⟨t, 7, none⟩ = some (.slice A s.n c) ∧ s.n ≤ c := by
  obtain ⟨A, c, h1, h2, h3⟩ := h.blk
  exact ⟨A, c, h1.cell (i := 7) rfl, h2⟩
set_option maxRecDepth 100000 in
theorem drop_c (w : World) (t b : Nat) (s : Rt) (i : Int) (h : TabB w t b s) (ok : Okr s) : Calls Try.prog 32 #[.pointer (some ⟨t, 0, none⟩), .int .i64 i] w fun e w' => e = .returned (.bool (dropB s i)) ∧ TabB w' t b (dropS s i) ∧ Fr (two t b) w w' := by
  have okn := ok.n
  unfold dropS
  cases c : dropB s i with
  | true =>
    obtain ⟨⟨i0, i1⟩, c1⟩ := dropB_iff.1 c
    obtain ⟨j, rfl⟩ := Int.eq_ofNat_of_zero_le i0
    rw [Int.toNat_natCast] at c1
    have i2 : j < s.n := by omega
    obtain ⟨cp, x0, x1, y0, y1⟩ := TabB.row h i2
    have z := TabB.frozen h (by omega) (j * 2 + 1)
    replace h := Lib.hid h
    rw [if_pos rfl]
    clear c
    go_enter Try.func32, Try.ntmps32
    go_wp2
    go_ret
    exact ⟨rfl, set_slot h.out i2 _, Fr.set (two t b) _ (p := ⟨b, j * 2 + 1, none⟩) (Or.inr rfl) _⟩
  | false =>
    rw [if_neg (by decide)]
    by_cases i0 : 0 ≤ i
    · by_cases i1 : i < s.n
      · obtain ⟨j, rfl⟩ := Int.eq_ofNat_of_zero_le i0
        have i2 : j < s.n := by omega
        obtain ⟨cp, x0, x1, y0, y1⟩ := TabB.row h i2
        have c1 : s.slot j < 0 := by
          rcases Int.lt_or_le (s.slot j) 0 with g | g
          · exact g
          · rw [dropB_iff.2 ⟨⟨i0, i1⟩, g⟩] at c; cases c
        clear c
        go_enter Try.func32, Try.ntmps32
        go_wp2
        go_ret
        exact ⟨rfl, h, Fr.refl _ _⟩
      · clear c
        obtain ⟨A, cp, x0, x1⟩ := TabB.len h
        go_enter Try.func32, Try.ntmps32
        go_wp2
        go_ret
        exact ⟨rfl, h, Fr.refl _ _⟩
    · clear c
      obtain ⟨A, cp, x0, x1⟩ := TabB.len h
      go_enter Try.func32, Try.ntmps32
      go_wp2
      go_ret
      exact ⟨rfl, h, Fr.refl _ _⟩
theorem drop_nil (w : World) (i : Int) : Calls Try.prog 32 #[.pointer none, .int .i64 i] w fun e w' => e = .returned (.bool false) ∧ w = w' := by
  go_enter Try.func32, Try.ntmps32
  go_wp2
  go_ret
  exact ⟨rfl, rfl⟩
theorem entry_c (a n : Int) (w : World) (h0 : 0 ≤ a) (h1 : a < 18446744073709551616) : Calls Try.prog 49 #[.int .u64 a, .int .i64 n] w fun e w' => e = .returned (.tuple #[.int .u64 (entryV a n).1, .bool (entryV a n).2]) ∧ Below w.heap.size w w' :=
  tag_Entry.calls 5 a n _ _ w (p_Entry 5 a n (by decide) h0 h1)
theorem handle_c (a n g : Int) (w : World) : Calls Try.prog 46 #[.int .i64 a, .int .i64 n, .int .u64 g] w fun e w' => e = .returned (.tuple #[.int .u64 (handleV a n g).1, .bool (handleV a n g).2]) ∧ Below w.heap.size w w' :=
  tag_Handle.calls 5 a n g _ _ w (p_Handle 5 a n g (by decide))
theorem parts_c (h : Int) (w : World) (h0 : 0 ≤ h) (h1 : h < 18446744073709551616) : Calls Try.prog 47 #[.int .u64 h] w fun e w' => e = .returned (.tuple #[.int .i64 (partsV h).1, .int .i64 (partsV h).2.1, .int .u64 (partsV h).2.2.1, .bool (partsV h).2.2.2]) ∧ Below w.heap.size w w' :=
  tag_HandleParts.calls 5 h _ _ _ _ w (p_HandleParts 5 h (by decide) h0 h1)
theorem pin_c (S A C H G K who : Int) (w : World) : Calls Try.prog 44 #[.agg #[.int .i64 S, .int .i64 A, .int .i64 C, .int .i64 H, .int .i64 G, .int .i64 K], .int .i64 who] w fun e w' => e = .returned (.int .i64 (if rightB S A C H G K = true ∧ 0 ≤ who ∧ who < C then 4 + who else -1)) ∧ Below w.heap.size w w' :=
  plan_Pin.calls S A C H G K who _ w (p_pPin S A C H G K who)
theorem cells3 {w w' : World} {t b i k l : Nat} {v0 v1 v2 : Value} (hb : Below w.heap.size w w') (hl : t < w.heap.size ∧ b < w.heap.size) (h : w.cell? ⟨t, i, none⟩ = some v0 ∧ w.cell? ⟨b, k, none⟩ = some v1 ∧ w.cell? ⟨b, l, none⟩ = some v2) :
    w'.cell? ⟨t, i, none⟩ = some v0 ∧ w'.cell? ⟨b, k, none⟩ = some v1 ∧ w'.cell? ⟨b, l, none⟩ = some v2 :=
  ⟨(hb.cell (p := ⟨t, i, none⟩) hl.1).trans h.1, (hb.cell (p := ⟨b, k, none⟩) hl.2).trans h.2.1, (hb.cell (p := ⟨b, l, none⟩) hl.2).trans h.2.2⟩
def wordV (s : Rt) (i : Int) : Int := if Rt.inn s i then (entryV (s.tag i.toNat) (s.slot i.toNat)).1 else 0
theorem word_c (w : World) (t b : Nat) (s : Rt) (i : Int) (h : TabB w t b s) (ok : Okr s) : Calls Try.prog 38 #[.pointer (some ⟨t, 0, none⟩), .int .i64 i] w fun e w' => e = .returned (.int .u64 (wordV s i)) ∧ Below w.heap.size w w' := by
  have okn := ok.n
  unfold wordV
  by_cases c : Rt.inn s i
  · obtain ⟨i0, i1⟩ := c
    rw [if_pos ⟨i0, i1⟩]
    obtain ⟨j, rfl⟩ := Int.eq_ofNat_of_zero_le i0
    rw [Int.toNat_natCast]
    have i2 : j < s.n := by omega
    obtain ⟨cp, x0, x1, y0, y1⟩ := TabB.row h i2
    have t0 := ok.tag j i2
    replace t0 := Lib.hid t0
    replace h := Lib.hid h
    go_enter Try.func38, Try.ntmps38
    go_wp2
    have hX := And.intro x0 (And.intro y0 y1)
    have lt := Lib.hid (And.intro h.out.lm h.out.lb)
    go_region_held3 (fun w' => w'.cell? ⟨t, 7, none⟩ = some (.slice (some ⟨b, 0, none⟩) s.n cp) ∧ w'.cell? ⟨b, j * 2, none⟩ = some (.int .u64 (s.tag j)) ∧ w'.cell? ⟨b, j * 2 + 1, none⟩ = some (.int .i64 (s.slot j))) (assumption) (first
      | (go_at_call 49; refine (entry_c _ _ _ (by have := t0.out; omega) (by have := t0.out; omega)).mono ?_; rintro e w' ⟨rfl, hb'⟩; have hb : Below w.heap.size w w' := below_undrew hb'; clear hb'; have hY := cells3 hb lt.out hX; replace hb := Lib.hid hb))
    all_goals
      go_wp2
      go_ret
      exact ⟨rfl, hb.out⟩
  · rw [if_neg c]
    obtain ⟨A, cp, x0, x1⟩ := TabB.len h
    by_cases i0 : 0 ≤ i
    · have i1 : ¬ i < s.n := fun q => c ⟨i0, q⟩
      clear c
      go_enter Try.func38, Try.ntmps38
      go_wp2
      go_ret
      exact ⟨rfl, Below.refl _ _⟩
    · clear c
      go_enter Try.func38, Try.ntmps38
      go_wp2
      go_ret
      exact ⟨rfl, Below.refl _ _⟩
theorem word_nil (w : World) (i : Int) : Calls Try.prog 38 #[.pointer none, .int .i64 i] w fun e w' => e = .returned (.int .u64 0) ∧ w = w' := by
  go_enter Try.func38, Try.ntmps38
  go_wp2
  go_ret
  exact ⟨rfl, rfl⟩
/-- Does it hold the entry of this handle? -/
def findB (s : Rt) (h : Int) : Bool := (partsV h).2.2.2 && decide ((partsV h).1 = s.who) && decide (Rt.inn s (partsV h).2.1) && decide (s.tag (partsV h).2.1.toNat = (partsV h).2.2.1) && decide (0 ≤ s.slot (partsV h).2.1.toNat)
def findI (s : Rt) (h : Int) : Int := if findB s h = true then (partsV h).2.1 else 0
def findS (s : Rt) (h : Int) : Int := if findB s h = true then s.slot (partsV h).2.1.toNat else 0
theorem findB_iff {s : Rt} {h : Int} : findB s h = true ↔ (partsV h).2.2.2 = true ∧ (partsV h).1 = s.who ∧ ((0 ≤ (partsV h).2.1 ∧ (partsV h).2.1 < s.n) ∧ s.tag (partsV h).2.1.toNat = (partsV h).2.2.1 ∧ 0 ≤ s.slot (partsV h).2.1.toNat) := by
  unfold findB
  rw [Bool.and_eq_true, Bool.and_eq_true, Bool.and_eq_true, Bool.and_eq_true, decide_eq_true_iff, decide_eq_true_iff, decide_eq_true_iff, decide_eq_true_iff]
  constructor
  · rintro ⟨⟨⟨⟨a, b⟩, c⟩, d⟩, e⟩; exact ⟨a, b, c, d, e⟩
  · rintro ⟨a, b, c, d, e⟩; exact ⟨⟨⟨⟨a, b⟩, c⟩, d⟩, e⟩
theorem parts_ge (h : Int) (h0 : 0 ≤ h) : 0 ≤ (partsV h).2.1 := by
  unfold partsV
  split
  · show 0 ≤ h / 281474976710656 % 256; omega
  · exact Int.le_refl 0
set_option maxHeartbeats 2000000 in
set_option maxRecDepth 100000 in
theorem find_c (w : World) (t b : Nat) (s : Rt) (hd : Int) (h : TabB w t b s) (ok : Okr s) (h0 : 0 ≤ hd) (h1 : hd < 18446744073709551616) : Calls Try.prog 35 #[.pointer (some ⟨t, 0, none⟩), .int .u64 hd] w fun e w' => e = .returned (.tuple #[.int .i64 (findI s hd), .int .i64 (findS s hd), .bool (findB s hd)]) ∧ Below w.heap.size w w' := by
  have okn := ok.n
  have pg := parts_ge hd h0
  have hp := parts_c hd w h0 h1
  have hF := Lib.hid (findB_iff (s := s) (h := hd))
  unfold findI findS
  generalize partsV hd = p at *
  obtain ⟨pw, pe, pt, po⟩ := p
  have h' := Lib.hid h
  cases c : findB s hd with
  | true =>
    obtain ⟨c1, c2, ⟨c3, c4⟩, c5, c6⟩ := hF.out.1 c
    dsimp only at c1 c2 c3 c4 c5 c6
    rw [if_pos rfl, if_pos rfl]
    subst c1 c2
    obtain ⟨j, rfl⟩ := Int.eq_ofNat_of_zero_le c3
    dsimp only
    rw [Int.toNat_natCast] at c5 c6
    rw [Int.toNat_natCast]
    subst c5
    have i2 : j < s.n := by omega
    clear hF c h
    go_enter Try.func35, Try.ntmps35
    go_wp2_with (go_at_call 47; refine hp.mono ?_; rintro e w' ⟨rfl, hb⟩; have h2 := h'.out.next hb; obtain ⟨cp, x0, x1, y0, y1⟩ := TabB.row h2 i2; have x6 := TabB.whos h2; replace h2 := Lib.hid h2; replace hb := Lib.hid hb)
    go_quiet (fail)
    go_wp2
    go_ret3
    exact ⟨rfl, below_drewN' hb.out⟩
  | false =>
    rw [if_neg (by decide), if_neg (by decide)]
    dsimp only at hF
    by_cases c1 : po = true
    · by_cases c2 : pw = s.who
      · by_cases c4 : pe < s.n
        · obtain ⟨j, rfl⟩ := Int.eq_ofNat_of_zero_le pg
          rw [Int.toNat_natCast] at hF
          have i2 : j < s.n := by omega
          by_cases c5 : s.tag j = pt
          · have c6 : ¬ 0 ≤ s.slot j := fun q => by
              have := hF.out.2 ⟨c1, c2, ⟨Int.natCast_nonneg j, c4⟩, c5, q⟩
              rw [c] at this; cases this
            subst c1 c2 c5
            clear hF c h
            go_enter Try.func35, Try.ntmps35
            go_wp2_with (go_at_call 47; refine hp.mono ?_; rintro e w' ⟨rfl, hb⟩; have h2 := h'.out.next hb; obtain ⟨cp, x0, x1, y0, y1⟩ := TabB.row h2 i2; have x6 := TabB.whos h2; replace h2 := Lib.hid h2; replace hb := Lib.hid hb)
            go_ret3
            exact ⟨rfl, hb.out⟩
          · have c5' : (s.tag j == pt) = false := beq_eq_false_iff_ne.2 c5
            subst c1 c2
            clear hF c h
            go_enter Try.func35, Try.ntmps35
            go_wp2_with (go_at_call 47; refine hp.mono ?_; rintro e w' ⟨rfl, hb⟩; have h2 := h'.out.next hb; obtain ⟨cp, x0, x1, y0, y1⟩ := TabB.row h2 i2; have x6 := TabB.whos h2; replace h2 := Lib.hid h2; replace hb := Lib.hid hb)
            go_ret3
            exact ⟨rfl, hb.out⟩
        · subst c1 c2
          clear hF c h
          go_enter Try.func35, Try.ntmps35
          go_wp2_with (go_at_call 47; refine hp.mono ?_; rintro e w' ⟨rfl, hb⟩; have h2 := h'.out.next hb; obtain ⟨AA, cp, x0, x1⟩ := TabB.len h2; have x6 := TabB.whos h2; replace h2 := Lib.hid h2; replace hb := Lib.hid hb)
          go_ret3
          exact ⟨rfl, hb.out⟩
      · have c2' : (pw == s.who) = false := beq_eq_false_iff_ne.2 c2
        subst c1
        clear hF c h
        go_enter Try.func35, Try.ntmps35
        go_wp2_with (go_at_call 47; refine hp.mono ?_; rintro e w' ⟨rfl, hb⟩; have h2 := h'.out.next hb; obtain ⟨AA, cp, x0, x1⟩ := TabB.len h2; have x6 := TabB.whos h2; replace h2 := Lib.hid h2; replace hb := Lib.hid hb)
        go_ret3
        exact ⟨rfl, hb.out⟩
    · obtain rfl : po = false := by cases po; rfl; exact absurd rfl c1
      clear hF c h
      go_enter Try.func35, Try.ntmps35
      go_wp2_with (go_at_call 47; refine hp.mono ?_; rintro e w' ⟨rfl, hb⟩; replace hb := Lib.hid hb)
      go_ret3
      exact ⟨rfl, hb.out⟩
theorem find_nil (w : World) (hd : Int) (h0 : 0 ≤ hd) (h1 : hd < 18446744073709551616) : Calls Try.prog 35 #[.pointer none, .int .u64 hd] w fun e w' => e = .returned (.tuple #[.int .i64 0, .int .i64 0, .bool false]) ∧ Below w.heap.size w w' := by
  have hp := parts_c hd w h0 h1
  go_enter Try.func35, Try.ntmps35
  go_wp2_with (go_at_call 47; refine hp.mono ?_; rintro e w' ⟨rfl, hb⟩; replace hb := Lib.hid hb)
  go_ret3
  exact ⟨rfl, hb.out⟩
end Go.Proofs.Ytljfpkdbooineaa.RootB
