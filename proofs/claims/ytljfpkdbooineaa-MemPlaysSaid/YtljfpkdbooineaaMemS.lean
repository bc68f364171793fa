/-
  Layer 2 (mem): what a memory holds behind some acts; rows of words of their own that are written. Conditions: as many touches as fit a number.
-/
import Derived.Test.YtljfpkdbooineaaMemN
set_option linter.unusedVariables false
namespace Go.Proofs.Ytljfpkdbooineaa.MemS
open Go.RowKit Go.Proofs.YtljfpkdbooineaaW.PrintWords Go.Proofs.Ytljfpkdbooineaa.Blk Go.Proofs.Ytljfpkdbooineaa.Core Go.Proofs.Ytljfpkdbooineaa.MemC Go.Proofs.Ytljfpkdbooineaa.MemD Go.Proofs.Ytljfpkdbooineaa.MemE Go.Proofs.Ytljfpkdbooineaa.Opens Go.Proofs.Ytljfpkdbooineaa.MemN
structure Fine (s : Ms) (n t : Nat) : Prop where
  u : U s.f
  n : s.n = n
  t0 : 0 ≤ s.t
  t : s.t ≤ t
theorem Fine.ok {s : Ms} {n t : Nat} (h : Fine s n t) (hn : n ≤ 65536) (ht : t ≤ 100000000) : Ok s := ⟨h.u, h.t0, by have := h.t; omega, by rw [h.n]; exact hn⟩
theorem Fine.mono {s : Ms} {n t t' : Nat} (h : Fine s n t) (ht : t ≤ t') : Fine s n t' := ⟨h.u, h.n, h.t0, by have := h.t; omega⟩
theorem Fine.touch {s : Ms} {n t : Nat} (h : Fine s n t) (k a : Int) {v : Int} (v0 : 0 ≤ v) (v1 : v < 18446744073709551616) : Fine (s.touch k a v) n (t + 1) := by
  have h0 := h.t0
  have h1 := h.t
  exact ⟨U.upd h.u _ v0 v1, h.n, by show 0 ≤ s.t + 1; omega, by show s.t + 1 ≤ _; omega⟩
theorem Fine.ld {s : Ms} {n t : Nat} (h : Fine s n t) (a : Int) : Fine (s.ldS a) n (t + 1) := by
  unfold Ms.ldS
  split
  · exact h.touch _ _ (h.u _).1 (h.u _).2
  · exact h.mono (Nat.le_succ _)
theorem Fine.st {s : Ms} {n t : Nat} (h : Fine s n t) (a : Int) {v : Int} (v0 : 0 ≤ v) (v1 : v < 18446744073709551616) : Fine (s.stS a v) n (t + 1) := by
  unfold Ms.stS
  split
  · exact h.touch _ _ v0 v1
  · exact h.mono (Nat.le_succ _)
theorem Fine.sw {s : Ms} {n t : Nat} (h : Fine s n t) (a o : Int) {v : Int} (v0 : 0 ≤ v) (v1 : v < 18446744073709551616) : Fine (s.swS a o v) n (t + 1) := by
  unfold Ms.swS
  split
  · split
    · exact h.touch _ _ v0 v1
    · exact h.touch _ _ (h.u _).1 (h.u _).2
  · exact h.mono (Nat.le_succ _)
theorem Fine.ad {s : Ms} {n t : Nat} (h : Fine s n t) (a v : Int) : Fine (s.adS a v) n (t + 1) := by
  unfold Ms.adS
  split
  · exact h.touch _ _ (by omega) (by omega)
  · exact h.mono (Nat.le_succ _)
theorem Fine.doS {s : Ms} {n t : Nat} (h : Fine s n t) (k a : Int) {x y : Int} (x0 : 0 ≤ x) (x1 : x < 18446744073709551616) (y0 : 0 ≤ y) (y1 : y < 18446744073709551616) : Fine (doS s k a x y) n (t + 1) := by
  unfold MemE.doS
  split
  · exact h.ld a
  · split
    · exact h.st a x0 x1
    · split
      · exact h.sw a x y0 y1
      · exact h.ad a x
theorem Fine.new (n : Nat) : Fine (Ms.new n) n 0 := ⟨fun _ => ⟨Int.le_refl 0, by show (0 : Int) < _; decide⟩, rfl, Int.le_refl 0, Int.le_refl 0⟩
/-- What the memory holds behind the first j acts. -/
def run (s : Ms) (q : Nat → A4) : Nat → Ms
  | 0 => s
  | j + 1 => doS (run s q j) (q j).k (q j).a (q j).x (q j).y
theorem Fine.run {s : Ms} {n t : Nat} {q : Nat → A4} {N : Nat} (h : Fine s n t) (hx : ∀ i, i < N → 0 ≤ (q i).x ∧ (q i).x < 18446744073709551616) (hy : ∀ i, i < N → 0 ≤ (q i).y ∧ (q i).y < 18446744073709551616) : ∀ j, j ≤ N → Fine (run s q j) n (t + j) := by
  intro j
  induction j with
  | zero => intro _; exact h
  | succ j ih =>
    intro hj
    exact (ih (by omega)).doS _ _ (hx j (by omega)).1 (hx j (by omega)).2 (hy j (by omega)).1 (hy j (by omega)).2
theorem below_drewN' {n k : Nat} {w w' : World} (h : Below n w w') : Below n w (w'.drewN k) := ⟨h.os, h.tape, h.output, h.size, h.block⟩
theorem words_n (w : World) (m b n : Nat) (s : Ms) (h : MemB w m b s) (e : s.n = n) (hn : n ≤ 65536) : Calls Try.prog 22 #[.pointer (some ⟨m, 0, none⟩)] w fun e w' => ∃ A c b', e = .returned (.slice A n c) ∧ w.heap.size ≤ b' ∧ RowB w' A c b' n s.f ∧ Below w.heap.size w w' := by
  subst e
  exact words_c w m b s h hn
theorem _root_.Go.Proofs.Ytljfpkdbooineaa.MemD.RowB.set {w : World} {A c b n f} (h : RowB w A c b n f) (i : Nat) (hi : i < n) (x : Int) : RowB (w.setCell ⟨b, i, none⟩ (.int .u64 x)) A c b n (upd f i x) := by
  obtain ⟨e, cs, h4, h5⟩ := h.row (by omega)
  refine ⟨h.cap, fun _ => ⟨e, cs.setIfInBounds i (.int .u64 x), h4.set i _, fun j hj => ?_⟩⟩
  have hl : i < cs.size := by
    have := h5 i hi
    rcases Nat.lt_or_ge i cs.size with h | h
    · exact h
    · rw [Array.getElem?_eq_none h] at this; cases this
  rw [Array.getElem?_setIfInBounds]
  unfold upd
  by_cases c : i = j
  · rw [if_pos c, if_pos hl, if_pos c.symm]
  · rw [if_neg c, if_neg (fun h => c h.symm)]; exact h5 j hj
theorem _root_.Go.Proofs.Ytljfpkdbooineaa.MemD.RowB.below {w w' : World} {A c b n f N} (h : RowB w A c b n f) (hb : Below N w w') (hN : w.heap.size ≤ N) : RowB w' A c b n f := by
  refine ⟨h.cap, fun hn => ?_⟩
  obtain ⟨e, cs, h4, h5⟩ := h.row hn
  exact ⟨e, cs, h4.below hb (Nat.lt_of_lt_of_le h4.lt hN), h5⟩
theorem _root_.Go.Proofs.Ytljfpkdbooineaa.MemC.MemB.next {w w' : World} {m b : Nat} {s : Ms} (h : MemB w m b s) (hb : Below w.heap.size w w') : MemB w' m b s := h.below hb h.lm h.lb
end Go.Proofs.Ytljfpkdbooineaa.MemS
