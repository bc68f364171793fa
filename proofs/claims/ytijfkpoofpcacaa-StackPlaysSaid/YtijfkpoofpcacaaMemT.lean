/-
  Layer 2 (mem), what the other layers' proofs use: a memory that stays fit, rows of words of one's own that are written. Conditions: as many touches as fit a number.
-/
import Derived.Test.YtijfkpoofpcacaaMemD
set_option linter.unusedVariables false
namespace Go.Proofs.Ytijfkpoofpcacaa.MemT
open Go.RowKit Go.Proofs.Ytijfkpoofpcacaa.Blk Go.Proofs.Ytijfkpoofpcacaa.Core Go.Proofs.Ytijfkpoofpcacaa.MemC Go.Proofs.Ytijfkpoofpcacaa.MemD
theorem below_two {n m b : Nat} {w w1 w2 : World} (h : Below n w w1) (hF : Fr (two m b) w1 w2) (hm : n ≤ m) (hb : n ≤ b) (hn : n ≤ w.heap.size) : Below n w w2 :=
  h.trans (hF.below (fun k hk => ⟨Nat.lt_of_lt_of_le hk (Nat.le_trans hn h.size), fun c => c.elim (fun e => by omega) (fun e => by omega)⟩))
theorem Ok.of {s : Ms} (h : U s.f) (h0 : 0 ≤ s.t) (h1 : s.t ≤ 1000) (hn : s.n ≤ 65536) : Ok s := ⟨h, h0, by omega, hn⟩
theorem U.upd {f : Nat → Int} (h : U f) (i : Nat) {x : Int} (x0 : 0 ≤ x) (x1 : x < 18446744073709551616) : U (upd f i x) := by
  intro j
  unfold Blk.upd
  split
  · exact ⟨x0, x1⟩
  · exact h j
structure Fine (s : Ms) (n t : Nat) : Prop where
  u : U s.f
  n : s.n = n
  t0 : 0 ≤ s.t
  t : s.t ≤ t
theorem Fine.ok {s : Ms} {n t : Nat} (h : Fine s n t) (hn : n ≤ 65536) (ht : t ≤ 100000000) : Ok s := ⟨h.u, h.t0, by have := h.t; omega, by rw [h.n]; exact hn⟩
theorem Fine.mono {s : Ms} {n t t' : Nat} (h : Fine s n t) (ht : t ≤ t') : Fine s n t' := ⟨h.u, h.n, h.t0, by have := h.t; omega⟩
theorem Fine.touch {s : Ms} {n t : Nat} (h : Fine s n t) (k a : Int) {v : Int} (v0 : 0 ≤ v) (v1 : v < 18446744073709551616) : Fine (s.touch k a v) n (t + 1) := by
  have h0 := h.t0
  have h1 := h.t
  exact ⟨U.upd h.u _ v0 v1, h.n, by show 0 ≤ s.t + 1; omega, by show s.t + 1 ≤ _; omega⟩
theorem Fine.ld {s : Ms} {n t : Nat} (h : Fine s n t) (a : Int) : Fine (s.ldS a) n (t + 1) := by
  unfold Ms.ldS
  split
  · exact h.touch _ _ (h.u _).1 (h.u _).2
  · exact h.mono (Nat.le_succ _)
theorem Fine.st {s : Ms} {n t : Nat} (h : Fine s n t) (a : Int) {v : Int} (v0 : 0 ≤ v) (v1 : v < 18446744073709551616) : Fine (s.stS a v) n (t + 1) := by
  unfold Ms.stS
  split
  · exact h.touch _ _ v0 v1
  · exact h.mono (Nat.le_succ _)
theorem Fine.sw {s : Ms} {n t : Nat} (h : Fine s n t) (a o : Int) {v : Int} (v0 : 0 ≤ v) (v1 : v < 18446744073709551616) : Fine (s.swS a o v) n (t + 1) := by
  unfold Ms.swS
  split
  · split
    · exact h.touch _ _ v0 v1
    · exact h.touch _ _ (h.u _).1 (h.u _).2
  · exact h.mono (Nat.le_succ _)
theorem Fine.ad {s : Ms} {n t : Nat} (h : Fine s n t) (a v : Int) : Fine (s.adS a v) n (t + 1) := by
  unfold Ms.adS
  split
  · exact h.touch _ _ (by omega) (by omega)
  · exact h.mono (Nat.le_succ _)
theorem Fine.new (n : Nat) : Fine (Ms.new n) n 0 := ⟨fun _ => ⟨Int.le_refl 0, by show (0 : Int) < _; decide⟩, rfl, Int.le_refl 0, Int.le_refl 0⟩
theorem below_drewN' {n k : Nat} {w w' : World} (h : Below n w w') : Below n w (w'.drewN k) := ⟨h.os, h.tape, h.output, h.size, h.block⟩
theorem words_n (w : World) (m b n : Nat) (s : Ms) (h : MemB w m b s) (e : s.n = n) (hn : n ≤ 65536) : Calls Try.prog 24 #[.pointer (some ⟨m, 0, none⟩)] w fun e w' => ∃ A c b', e = .returned (.slice A n c) ∧ w.heap.size ≤ b' ∧ RowB w' A c b' n s.f ∧ Below w.heap.size w w' := by
  subst e
  exact words_c w m b s h hn
theorem _root_.Go.Proofs.Ytijfkpoofpcacaa.MemD.RowB.set {w : World} {A c b n f} (h : RowB w A c b n f) (i : Nat) (hi : i < n) (x : Int) : RowB (w.setCell ⟨b, i, none⟩ (.int .u64 x)) A c b n (upd f i x) := by
  obtain ⟨e, cs, h4, h5⟩ := h.row (by omega)
  refine ⟨h.cap, fun _ => ⟨e, cs.setIfInBounds i (.int .u64 x), h4.set i _, fun j hj => ?_⟩⟩
  have hl : i < cs.size := by
    have := h5 i hi
    rcases Nat.lt_or_ge i cs.size with h | h
    · exact h
    · rw [Array.getElem?_eq_none h] at this; cases this
  rw [Array.getElem?_setIfInBounds]
  unfold upd
  by_cases c : i = j
  · rw [if_pos c, if_pos hl, if_pos c.symm]
  · rw [if_neg c, if_neg (fun h => c h.symm)]; exact h5 j hj
theorem _root_.Go.Proofs.Ytijfkpoofpcacaa.MemD.RowB.below {w w' : World} {A c b n f N} (h : RowB w A c b n f) (hb : Below N w w') (hN : w.heap.size ≤ N) : RowB w' A c b n f := by
  refine ⟨h.cap, fun hn => ?_⟩
  obtain ⟨e, cs, h4, h5⟩ := h.row hn
  exact ⟨e, cs, h4.below hb (Nat.lt_of_lt_of_le h4.lt hN), h5⟩
theorem _root_.Go.Proofs.Ytijfkpoofpcacaa.MemC.MemB.next {w w' : World} {m b : Nat} {s : Ms} (h : MemB w m b s) (hb : Below w.heap.size w w') : MemB w' m b s := h.below hb h.lm h.lb
theorem below_pre {w w' : World} {o : Obj} (h : Below (w.alloc o).heap.size (w.alloc o) w') : Below w.heap.size w w' := ((Below.refl w.heap.size w).alloc (Nat.le_refl _) o).trans (h.mono (by simp))
theorem fr_below {S : Nat → Prop} {w w' : World} (h : Below w.heap.size w w') : Fr S w w' := Fr.of_below h (fun k hk _ => hk)
theorem bT {w w1 w2 : World} (h : Below w.heap.size w w1) (k : Below w1.heap.size w1 w2) : Below w.heap.size w w2 := h.trans (k.mono h.size)
/-- The six cells of a config. -/
def Cfg6 (w : World) (b : Nat) (S A C H G K : Int) : Prop := w.cell? ⟨b, 0, none⟩ = some (.int .i64 S) ∧ w.cell? ⟨b, 1, none⟩ = some (.int .i64 A) ∧ w.cell? ⟨b, 2, none⟩ = some (.int .i64 C) ∧ w.cell? ⟨b, 3, none⟩ = some (.int .i64 H) ∧ w.cell? ⟨b, 4, none⟩ = some (.int .i64 G) ∧ w.cell? ⟨b, 5, none⟩ = some (.int .i64 K)
theorem cfgs {w : World} {b t : Nat} {S A C H G K : Int} (h : Blk w b t #[.int .i64 S, .int .i64 A, .int .i64 C, .int .i64 H, .int .i64 G, .int .i64 K]) : w.cell? ⟨b, 0, none⟩ = some (.int .i64 S) ∧ w.cell? ⟨b, 1, none⟩ = some (.int .i64 A) ∧ w.cell? ⟨b, 2, none⟩ = some (.int .i64 C) ∧ w.cell? ⟨b, 3, none⟩ = some (.int .i64 H) ∧ w.cell? ⟨b, 4, none⟩ = some (.int .i64 G) ∧ w.cell? ⟨b, 5, none⟩ = some (.int .i64 K) :=
  ⟨h.cell (i := 0) rfl, h.cell (i := 1) rfl, h.cell (i := 2) rfl, h.cell (i := 3) rfl, h.cell (i := 4) rfl, h.cell (i := 5) rfl⟩
end Go.Proofs.Ytijfkpoofpcacaa.MemT
