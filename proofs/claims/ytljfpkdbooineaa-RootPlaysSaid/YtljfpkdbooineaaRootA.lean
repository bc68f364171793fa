/-
  Contracts of layer 11 (root): a table as two blocks, what each method answers and leaves; conditions: as many entries as a right config has.
-/
import Derived.Test.YtljfpkdbooineaaRows
import Derived.Test.YtljfpkdbooineaaCore
import Derived.Test.YtljfpkdbooineaaBlk
import Derived.Test.YtljfpkdbooineaaRootP
import Derived.WalkKit
import Derived.WalkSpells
import Derived.WalkLawsBesides
import Derived.Laws.MakeOwn
import Derived.Laws.AppendOwn
import Derived.KernelRfl
import Derived.Lib.Hide
import Derived.Outline
set_option linter.unusedVariables false
namespace Go.Proofs.Ytljfpkdbooineaa.RootA
open Go.RowKit Go.Proofs.Ytljfpkdbooineaa.PRootPlays Go.Proofs.YtljfpkdbooineaaW.PrintWords Go.Proofs.Ytljfpkdbooineaa.Blk Go.Proofs.Ytljfpkdbooineaa.Core Go.Proofs.Ytljfpkdbooineaa.RootP
/-- A table: its config, whose it is, its entries' tags and slots. -/
structure Rt where
  S : Int
  A : Int
  C : Int
  H : Int
  G : Int
  K : Int
  who : Int
  n : Nat
  tag : Nat → Int
  slot : Nat → Int
structure TabB (w : World) (t b : Nat) (s : Rt) : Prop where
  ne : 0 < s.n → t ≠ b
  lb : b < w.heap.size
  blk : ∃ A c, Blk w t 79 #[.int .i64 s.S, .int .i64 s.A, .int .i64 s.C, .int .i64 s.H, .int .i64 s.G, .int .i64 s.K, .int .i64 s.who, .slice A s.n c] ∧ s.n ≤ c ∧
    (0 < s.n → A = some ⟨b, 0, none⟩ ∧ ∃ cs, Blk w b 81 cs ∧ ∀ i, i < s.n → cs[i * 2]? = some (.int .u64 (s.tag i)) ∧ cs[i * 2 + 1]? = some (.int .i64 (s.slot i)))
def two (m b : Nat) : Nat → Prop := fun k => k = m ∨ k = b
theorem TabB.fr {S : Nat → Prop} {w w' : World} {m b : Nat} {s : Rt} (h : TabB w m b s) (hf : Fr S w w') (hm : ¬ S m) (hb : ¬ S b) : TabB w' m b s := by
  obtain ⟨A, c, h1, h2, h3⟩ := h.blk
  refine ⟨h.ne, Nat.lt_of_lt_of_le h.lb hf.size, A, c, h1.fr hf hm, h2, fun hn => ?_⟩
  obtain ⟨e, cs, h4, h5⟩ := h3 hn
  exact ⟨e, cs, h4.fr hf hb, h5⟩
theorem TabB.lm {w : World} {m b : Nat} {s : Rt} (h : TabB w m b s) : m < w.heap.size := by
  obtain ⟨A, c, h1, h2, h3⟩ := h.blk
  exact h1.lt
theorem TabB.alloc {w : World} {m b : Nat} {s : Rt} (h : TabB w m b s) (o : Obj) : TabB (w.alloc o) m b s := h.fr (S := fun _ => False) (Fr.alloc _ w o) id id
theorem TabB.below {w w' : World} {m b : Nat} {s : Rt} {n : Nat} (h : TabB w m b s) (hb : Below n w w') (h1 : m < n) (h2 : b < n) : TabB w' m b s := h.fr (S := fun k => ¬ k < n) (Fr.of_below hb (fun k _ hs => Classical.byContradiction hs)) (fun c => c h1) (fun c => c h2)
theorem TabB.next {w w' : World} {m b : Nat} {s : Rt} (h : TabB w m b s) (hb : Below w.heap.size w w') : TabB w' m b s := h.below hb h.lm h.lb
theorem TabB.drewN {w : World} {m b : Nat} {s : Rt} (h : TabB w m b s) (n : Nat) : TabB (w.drewN n) m b s := h.fr (S := fun _ => False) (Fr.drewN _ w n) id id
theorem TabB.drew {w : World} {m b : Nat} {s : Rt} (h : TabB w m b s) : TabB w.drew m b s := h.fr (S := fun _ => False) (Fr.drew _ w) id id
theorem below_drewN' {n k : Nat} {w w' : World} (h : Below n w w') : Below n w (w'.drewN k) := ⟨h.os, h.tape, h.output, h.size, h.block⟩
theorem below_undrew {n : Nat} {w w' : World} (h : Below n w.drew w') : Below n w w' := ⟨h.os, h.tape, h.output, h.size, h.block⟩
/-- What may be laid over a table's entries' numbers. -/
structure Okr (s : Rt) : Prop where
  n : s.n ≤ 16
  tag : ∀ i, i < s.n → 0 ≤ s.tag i ∧ s.tag i ≤ 4294967295
  slot : ∀ i, i < s.n → -1 ≤ s.slot i ∧ s.slot i < 64
/-- The first below n of which p. -/
def fst (p : Nat → Bool) (n : Nat) : Nat := (List.range n).findIdx p
theorem fst_le (p : Nat → Bool) (n : Nat) : fst p n ≤ n := by
  have := List.findIdx_le_length (p := p) (xs := List.range n)
  simpa [fst] using this
theorem fst_is {p : Nat → Bool} {n : Nat} (h : fst p n < n) : p (fst p n) = true := by
  have h' : (List.range n).findIdx p < (List.range n).length := by rw [List.length_range]; exact h
  have := List.findIdx_getElem (w := h')
  simpa [fst] using this
theorem fst_not {p : Nat → Bool} {n i : Nat} (h : i < fst p n) : p i = false := by
  have h0 := fst_le p n
  have := List.not_of_lt_findIdx (p := p) (xs := List.range n) (i := i) h
  simpa using this
theorem fst_eq {p : Nat → Bool} {n i : Nat} (hi : i < n) (hp : p i = true) (hq : ∀ j, j < i → p j = false) : fst p n = i := by
  rcases Nat.lt_trichotomy (fst p n) i with h | h | h
  · have := fst_is (p := p) (n := n) (by omega)
    rw [hq _ h] at this; cases this
  · exact h
  · have := fst_not h
    rw [hp] at this; cases this
theorem fst_none {p : Nat → Bool} {n : Nat} (hq : ∀ j, j < n → p j = false) : fst p n = n := by
  rcases Nat.lt_or_ge (fst p n) n with h | h
  · have := fst_is h
    rw [hq _ h] at this; cases this
  · have := fst_le p n; omega
def Rt.fr (s : Rt) (i : Nat) : Bool := decide (s.slot i < 0) && decide (s.tag i < 4294967295)
def Rt.at_ (s : Rt) : Nat := fst s.fr s.n
theorem TabB.row {w : World} {t b : Nat} {s : Rt} (h : TabB w t b s) {i : Nat} (hi : i < s.n) : ∃ c, w.cell? ⟨t, 7, none⟩ = some (.slice (some ⟨b, 0, none⟩) s.n c) ∧ s.n ≤ c ∧ w.cell? ⟨b, i * 2, none⟩ = some (.int .u64 (s.tag i)) ∧ w.cell? ⟨b, i * 2 + 1, none⟩ = some (.int .i64 (s.slot i)) := by
  obtain ⟨A, c, h2, h3, h4⟩ := h.blk
  obtain ⟨rfl, cs, h5, h6⟩ := h4 (by omega)
  exact ⟨c, h2.cell (i := 7) rfl, h3, h5.cell (h6 i hi).1, h5.cell (h6 i hi).2⟩
theorem fr_iff {s : Rt} {i : Nat} : s.fr i = true ↔ s.slot i < 0 ∧ s.tag i < 4294967295 := by simp [Rt.fr]
def Rt.freeV (s : Rt) : Int := if s.at_ < s.n then (s.at_ : Int) else -1
theorem freeV_yes {s : Rt} (h : s.at_ < s.n) : s.freeV = (s.at_ : Int) := if_pos h
theorem freeV_no {s : Rt} (h : ¬ s.at_ < s.n) : s.freeV = -1 := if_neg h
theorem free_c (w : World) (t b : Nat) (s : Rt) (h : TabB w t b s) (ok : Okr s) : Calls Try.prog 45 #[.pointer (some ⟨t, 0, none⟩)] w fun e w' => e = .returned (.int .i64 s.freeV) ∧ Below w.heap.size w w' := by
  obtain ⟨A, c, h1, h2, h3⟩ := h.blk
  have x0 := h1.cell (i := 7) rfl
  have okn := ok.n
  replace h1 := Lib.hid h1
  replace h3 := Lib.hid h3
  go_enter Try.func45, Try.ntmps45
  go_wp2
  go_loopw [12] (fun z wr => ∃ j : Nat, j ≤ s.n ∧ z = .int .i64 (j : Int) ∧ (∀ i, i < j → s.fr i = false) ∧ Below w.heap.size w wr) (fun z _ => s.n - (intOf z).toNat)
  case atStart => exact ⟨0, Nat.zero_le _, rfl, fun i hi => by omega, Below.refl _ _⟩
  case round =>
    obtain ⟨j, hj, rfl, hN, hB⟩ := hrel
    by_cases hlt : j < s.n
    · obtain ⟨c', _, _, y0, y1⟩ := (h.next hB).row hlt
      obtain ⟨rfl, _⟩ := h3.out (by omega)
      have hb1 : wr.heap.size ≥ w.heap.size := hB.size
      replace hB := Lib.hid hB
      replace hN := Lib.hid hN
      by_cases c1 : s.slot j < 0
      · by_cases c2 : s.tag j < 4294967295
        · have e : s.at_ = j := fst_eq hlt (fr_iff.2 ⟨c1, c2⟩) hN.out
          replace e := Lib.hid e
          go_wp2
          go_ret
          exact ⟨by rw [freeV_yes (by rw [e.out]; exact hlt), e.out]; rfl, hB.out.alloc hb1 _⟩
        · go_wp2
          go_roundw
          case rel =>
            refine ⟨j + 1, by omega, by go_num, fun i hi => ?_, hB.out.alloc hb1 _⟩
            rcases Nat.lt_or_ge i j with g | g
            · exact hN.out i g
            · obtain rfl : i = j := by omega
              cases q : s.fr i with
              | false => rfl
              | true => exact absurd (fr_iff.1 q).2 c2
          case measure => simp [intOf]; omega
      · go_wp2
        go_roundw
        case rel =>
          refine ⟨j + 1, by omega, by go_num, fun i hi => ?_, hB.out.alloc hb1 _⟩
          rcases Nat.lt_or_ge i j with g | g
          · exact hN.out i g
          · obtain rfl : i = j := by omega
            cases q : s.fr i with
            | false => rfl
            | true => exact absurd (fr_iff.1 q).1 c1
        case measure => simp [intOf]; omega
    · have : j = s.n := by omega
      subst this
      have e : s.at_ = s.n := fst_none hN
      replace hB := Lib.hid hB
      replace e := Lib.hid e
      go_wp2
      go_ret
      exact ⟨by rw [freeV_no (by rw [e.out]; exact Nat.lt_irrefl _)]; rfl, hB.out⟩
theorem free_nil (w : World) : Calls Try.prog 45 #[.pointer none] w fun e w' => e = .returned (.int .i64 (-1)) ∧ w = w' := by
  go_enter Try.func45, Try.ntmps45
  go_wp2
  go_ret
  exact ⟨rfl, rfl⟩
/-- How many below j of which p. -/
def cnt (p : Nat → Bool) : Nat → Nat
  | 0 => 0
  | j + 1 => cnt p j + (if p j = true then 1 else 0)
theorem cnt_le (p : Nat → Bool) : ∀ j, cnt p j ≤ j
  | 0 => Nat.le_refl 0
  | j + 1 => by have := cnt_le p j; unfold cnt; split <;> omega
def Rt.hd (s : Rt) (i : Nat) : Bool := decide (0 ≤ s.slot i)
theorem held_c (w : World) (t b : Nat) (s : Rt) (h : TabB w t b s) (ok : Okr s) : Calls Try.prog 30 #[.pointer (some ⟨t, 0, none⟩)] w fun e w' => e = .returned (.int .i64 (cnt s.hd s.n : Int)) ∧ Below w.heap.size w w' := by
  obtain ⟨A, c, h1, h2, h3⟩ := h.blk
  have x0 := h1.cell (i := 7) rfl
  have okn := ok.n
  replace h1 := Lib.hid h1
  replace h3 := Lib.hid h3
  go_enter Try.func30, Try.ntmps30
  go_wp2
  go_loopw [3, 13] (fun u z wr => ∃ j : Nat, j ≤ s.n ∧ u = .int .i64 (cnt s.hd j : Int) ∧ z = .int .i64 (j : Int) ∧ Below w.heap.size w wr) (fun _ z _ => s.n - (intOf z).toNat)
  case atStart => exact ⟨0, Nat.zero_le _, rfl, rfl, Below.refl _ _⟩
  case round =>
    obtain ⟨j, hj, rfl, rfl, hB⟩ := hrel
    by_cases hlt : j < s.n
    · obtain ⟨c', _, _, y0, y1⟩ := (h.next hB).row hlt
      obtain ⟨rfl, _⟩ := h3.out (by omega)
      have hb1 : wr.heap.size ≥ w.heap.size := hB.size
      replace hB := Lib.hid hB
      have hcl := cnt_le s.hd j
      by_cases c1 : 0 ≤ s.slot j
      · have e : cnt s.hd (j + 1) = cnt s.hd j + 1 := by rw [cnt, if_pos (show s.hd j = true from decide_eq_true c1)]
        replace e := Lib.hid e
        go_wp2
        go_roundw
        case rel => exact ⟨j + 1, by omega, by rw [e.out]; go_num, by go_num, hB.out.alloc hb1 _⟩
        case measure => simp [intOf]; omega
      · have e : cnt s.hd (j + 1) = cnt s.hd j := by rw [cnt, if_neg (by rw [show s.hd j = false from decide_eq_false c1]; decide)]; rfl
        replace e := Lib.hid e
        go_wp2
        go_roundw
        case rel => exact ⟨j + 1, by omega, by rw [e.out], by go_num, hB.out.alloc hb1 _⟩
        case measure => simp [intOf]; omega
    · have : j = s.n := by omega
      subst this
      replace hB := Lib.hid hB
      go_wp2
      go_ret
      exact ⟨rfl, hB.out⟩
theorem held_nil (w : World) : Calls Try.prog 30 #[.pointer none] w fun e w' => e = .returned (.int .i64 0) ∧ w = w' := by
  go_enter Try.func30, Try.ntmps30
  go_wp2
  go_ret
  exact ⟨rfl, rfl⟩
theorem room_c (w : World) (t b : Nat) (s : Rt) (h : TabB w t b s) (ok : Okr s) : Calls Try.prog 31 #[.pointer (some ⟨t, 0, none⟩)] w fun e w' => e = .returned (.bool (decide (s.at_ < s.n))) ∧ Below w.heap.size w w' := by
  by_cases c : s.at_ < s.n
  · rw [decide_eq_true c]
    have c' : (0 : Int) ≤ s.at_ := by omega
    go_enter Try.func31, Try.ntmps31
    go_wp2_with (go_at_call 45; refine (free_c _ t b s h ok).mono ?_; rintro e w' ⟨rfl, hb⟩; rw [freeV_yes c]; replace hb := Lib.hid hb)
    go_ret
    exact ⟨rfl, hb.out⟩
  · rw [decide_eq_false c]
    go_enter Try.func31, Try.ntmps31
    go_wp2_with (go_at_call 45; refine (free_c _ t b s h ok).mono ?_; rintro e w' ⟨rfl, hb⟩; rw [freeV_no c]; replace hb := Lib.hid hb)
    go_ret
    exact ⟨rfl, hb.out⟩
theorem room_nil (w : World) : Calls Try.prog 31 #[.pointer none] w fun e w' => e = .returned (.bool false) ∧ w = w' := by
  go_enter Try.func31, Try.ntmps31
  go_wp2_with (go_at_call 45; refine (free_nil _).mono ?_; rintro e w' ⟨rfl, rfl⟩)
  go_ret
  exact ⟨rfl, rfl⟩
end Go.Proofs.Ytljfpkdbooineaa.RootA
