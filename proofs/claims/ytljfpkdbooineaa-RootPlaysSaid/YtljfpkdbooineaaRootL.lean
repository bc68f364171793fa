/-
  Layer 11 (root): the one entry of which a handle is (for the law RootPlays). No condition.
-/
import Derived.Test.YtljfpkdbooineaaRootJ
set_option linter.unusedVariables false
namespace Go.Proofs.Ytljfpkdbooineaa.RootL
open Go.RowKit Go.Proofs.YtljfpkdbooineaaW.PrintWords Go.Proofs.Ytljfpkdbooineaa.Blk Go.Proofs.Ytljfpkdbooineaa.Core Go.Proofs.Ytljfpkdbooineaa.RootP Go.Proofs.Ytljfpkdbooineaa.RootA Go.Proofs.Ytljfpkdbooineaa.RootB Go.Proofs.Ytljfpkdbooineaa.RootC
theorem handle_ok {c e t : Int} (h : (handleV c e t).2 = true) : (0 ≤ c ∧ c < 8 ∧ 0 ≤ e ∧ (e < 16 ∨ e = 255) ∧ 1 ≤ t ∧ t ≤ 4294967295) ∧ (handleV c e t).1 = 72057594037927936 * (c + 1) + 281474976710656 * e + t := by
  by_cases q : 0 ≤ c ∧ c < 8 ∧ 0 ≤ e ∧ (e < 16 ∨ e = 255) ∧ 1 ≤ t ∧ t ≤ 4294967295
  · exact ⟨q, by rw [handleV_yes q]⟩
  · rw [handleV_no q] at h; cases h
theorem parts_of {c e t : Int} (q : 0 ≤ c ∧ c < 8 ∧ 0 ≤ e ∧ (e < 16 ∨ e = 255) ∧ 1 ≤ t ∧ t ≤ 4294967295) : partsV (72057594037927936 * (c + 1) + 281474976710656 * e + t) = (c, e, t, true) := by
  have e1 : (72057594037927936 * (c + 1) + 281474976710656 * e + t) / 72057594037927936 - 1 = c := by omega
  have e2 : (72057594037927936 * (c + 1) + 281474976710656 * e + t) / 281474976710656 % 256 = e := by omega
  have e3 : (72057594037927936 * (c + 1) + 281474976710656 * e + t) % 281474976710656 = t := by omega
  rw [partsV_yes (by rw [e1, e2, e3]; exact handleB_iff.2 q), e1, e2, e3]
theorem parts_ok {h : Int} (hp : (partsV h).2.2.2 = true) : (0 ≤ (partsV h).1 ∧ (partsV h).1 < 8 ∧ 0 ≤ (partsV h).2.1 ∧ ((partsV h).2.1 < 16 ∨ (partsV h).2.1 = 255) ∧ 1 ≤ (partsV h).2.2.1 ∧ (partsV h).2.2.1 ≤ 4294967295) ∧ h = 72057594037927936 * ((partsV h).1 + 1) + 281474976710656 * (partsV h).2.1 + (partsV h).2.2.1 := by
  by_cases c : handleB (h / 72057594037927936 - 1) (h / 281474976710656 % 256) (h % 281474976710656) = true
  · rw [partsV_yes c]
    exact ⟨handleB_iff.1 c, by show h = 72057594037927936 * (h / 72057594037927936 - 1 + 1) + 281474976710656 * (h / 281474976710656 % 256) + h % 281474976710656; omega⟩
  · rw [partsV_no c] at hp; cases hp
/-- The one entry of which a handle is. -/
theorem find_at {s : Rt} {m : Nat} (hm : s.n = m) {h : Int} {l : Nat} (hl : l < m) :
    ((handleV s.who l (s.tag l)).2 = true ∧ (handleV s.who l (s.tag l)).1 = h ∧ 0 ≤ s.slot l) ↔ (findB s h = true ∧ (partsV h).2.1 = l) := by
  constructor
  · rintro ⟨a, b, c⟩
    obtain ⟨q, e⟩ := handle_ok a
    rw [e] at b
    have hp := parts_of q
    rw [b] at hp
    refine ⟨?_, by rw [hp]⟩
    rw [findB_iff, hp]
    exact ⟨rfl, rfl, ⟨Int.natCast_nonneg l, by show (l : Int) < s.n; omega⟩, by show s.tag (l : Int).toNat = s.tag l; rw [Int.toNat_natCast], by show 0 ≤ s.slot (l : Int).toNat; rw [Int.toNat_natCast]; exact c⟩
  · rintro ⟨a, b⟩
    obtain ⟨q1, q2, q3, q4, q5⟩ := findB_iff.1 a
    obtain ⟨q, e⟩ := parts_ok q1
    rw [b, Int.toNat_natCast] at q4 q5
    rw [q2, b, ← q4] at q e
    rw [handleV_yes q]
    exact ⟨rfl, e.symm, q5⟩
/-- The entry of the first j of which a handle is; -1: none. -/
def atV (s : Rt) (h : Int) (j : Nat) : Int := if findB s h = true ∧ (partsV h).2.1 < (j : Int) then (partsV h).2.1 else -1
theorem atV_0 (s : Rt) {h : Int} (h0 : 0 ≤ h) : atV s h 0 = -1 := if_neg (fun c => by have := parts_ge h h0; have := c.2; omega)
theorem atV_yes {s : Rt} {h : Int} {l : Nat} (c : findB s h = true ∧ (partsV h).2.1 = l) : atV s h (l + 1) = l := by
  unfold atV
  rw [if_pos ⟨c.1, by rw [c.2]; omega⟩, c.2]
theorem atV_no {s : Rt} {h : Int} {l : Nat} (c : ¬ (findB s h = true ∧ (partsV h).2.1 = l)) : atV s h (l + 1) = atV s h l := by
  unfold atV
  by_cases d : findB s h = true
  · by_cases e : (partsV h).2.1 < (l : Int)
    · rw [if_pos ⟨d, (show (partsV h).2.1 < ((l + 1 : Nat) : Int) by omega)⟩, if_pos ⟨d, e⟩]
    · have : (partsV h).2.1 ≠ l := fun q => c ⟨d, q⟩
      rw [if_neg (fun x => by have := x.2; omega), if_neg (fun x => e x.2)]
  · rw [if_neg (fun x => d x.1), if_neg (fun x => d x.1)]
theorem atV_end {s : Rt} {h : Int} {m : Nat} (hm : s.n = m) (d : findB s h = true) : ∃ e : Nat, e < m ∧ atV s h m = e ∧ findI s h = e ∧ findS s h = s.slot e ∧ 0 ≤ s.slot e := by
  obtain ⟨q1, q2, ⟨q3, q3'⟩, q4, q5⟩ := findB_iff.1 d
  obtain ⟨e, he⟩ := Int.eq_ofNat_of_zero_le q3
  refine ⟨e, by omega, ?_, ?_, ?_, ?_⟩
  · unfold atV; rw [if_pos ⟨d, by omega⟩, he]
  · unfold findI; rw [if_pos d, he]
  · unfold findS; rw [if_pos d, he, Int.toNat_natCast]
  · rw [he, Int.toNat_natCast] at q5; exact q5
theorem atV_none {s : Rt} {h : Int} (m : Nat) (d : findB s h = false) : atV s h m = -1 ∧ findI s h = 0 ∧ findS s h = 0 := by
  refine ⟨if_neg (fun c => by rw [d] at c; cases c.1), ?_, ?_⟩
  · unfold findI; rw [d]; rfl
  · unfold findS; rw [d]; rfl
end Go.Proofs.Ytljfpkdbooineaa.RootL
