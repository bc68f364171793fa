/-
  Layer 2 (mem), of no memory: what its methods answer, and the law MemNone's walk; condition: the acts' rows as they are read.
-/
import Derived.Test.YtljfpkdbooineaaMemE
import Derived.Test.YtljfpkdbooineaaOpen
set_option linter.unusedVariables false
namespace Go.Proofs.Ytljfpkdbooineaa.MemN
open Go.RowKit Go.Proofs.YtljfpkdbooineaaW.PrintWords Go.Proofs.Ytljfpkdbooineaa.Blk Go.Proofs.Ytljfpkdbooineaa.Core Go.Proofs.Ytljfpkdbooineaa.MemC Go.Proofs.Ytljfpkdbooineaa.MemD Go.Proofs.Ytljfpkdbooineaa.MemE Go.Proofs.Ytljfpkdbooineaa.Opens
theorem there_nil (w : World) (a : Int) : Calls Try.prog 39 #[.pointer none, .int .i64 a] w fun e w' => e = .returned (.bool false) ∧ w = w' := by
  by_cases c : 0 ≤ a
  · go_enter Try.func39, Try.ntmps39
    go_wp2_with (go_at_call 23; refine (size_nil _).mono ?_; rintro e w' ⟨rfl, rfl⟩)
    go_ret
    exact ⟨by rw [show decide (a < 0) = false from decide_eq_false (by omega)]; rfl, rfl⟩
  · go_enter Try.func39, Try.ntmps39
    go_wp2
    go_ret
    exact ⟨rfl, rfl⟩
theorem load_nil (w : World) (a : Int) : Calls Try.prog 17 #[.pointer none, .int .i64 a] w fun e w' => e = .returned (.int .u64 0) ∧ w = w' := by
  go_enter Try.func17, Try.ntmps17
  go_wp2_with (go_at_call 39; refine (there_nil _ a).mono ?_; rintro e w' ⟨rfl, rfl⟩)
  go_ret
  exact ⟨rfl, rfl⟩
theorem store_nil (w : World) (a v : Int) : Calls Try.prog 41 #[.pointer none, .int .i64 a, .int .u64 v] w fun e w' => e = .returned (.bool false) ∧ w = w' := by
  go_enter Try.func41, Try.ntmps41
  go_wp2_with (go_at_call 39; refine (there_nil _ a).mono ?_; rintro e w' ⟨rfl, rfl⟩)
  go_ret
  exact ⟨rfl, rfl⟩
theorem swap_nil (w : World) (a o v : Int) : Calls Try.prog 16 #[.pointer none, .int .i64 a, .int .u64 o, .int .u64 v] w fun e w' => e = .returned (.bool false) ∧ w = w' := by
  go_enter Try.func16, Try.ntmps16
  go_wp2_with (go_at_call 39; refine (there_nil _ a).mono ?_; rintro e w' ⟨rfl, rfl⟩)
  go_ret
  exact ⟨rfl, rfl⟩
theorem add_nil (w : World) (a v : Int) : Calls Try.prog 15 #[.pointer none, .int .i64 a, .int .u64 v] w fun e w' => e = .returned (.int .u64 0) ∧ w = w' := by
  go_enter Try.func15, Try.ntmps15
  go_wp2_with (go_at_call 39; refine (there_nil _ a).mono ?_; rintro e w' ⟨rfl, rfl⟩)
  go_ret
  exact ⟨rfl, rfl⟩
theorem does_nil (w : World) (k a x y : Int) : Calls Try.prog 18 #[.pointer none, .agg #[.int .i64 k, .int .i64 a, .int .u64 x, .int .u64 y]] w fun e w' => e = .returned (.tuple #[.int .u64 0, .bool false]) ∧ Below w.heap.size w w' := by
  have hb (o : Obj) : Below w.heap.size w (w.alloc o) := (Below.refl _ w).alloc (Nat.le_refl _) o
  by_cases c0 : k = 0
  · subst c0
    go_enter Try.func18, Try.ntmps18
    go_wp2_with (go_at_call 17; refine (load_nil _ _).mono ?_; rintro e w' ⟨rfl, rfl⟩)
    go_ret2
    exact ⟨rfl, hb _⟩
  · have d0 : (k == 0) = false := beq_eq_false_iff_ne.2 c0
    by_cases c1 : k = 1
    · subst c1
      go_enter Try.func18, Try.ntmps18
      go_wp2_with (go_at_call 41; refine (store_nil _ _ _).mono ?_; rintro e w' ⟨rfl, rfl⟩)
      go_ret2
      exact ⟨rfl, hb _⟩
    · have d1 : (k == 1) = false := beq_eq_false_iff_ne.2 c1
      by_cases c2 : k = 2
      · subst c2
        go_enter Try.func18, Try.ntmps18
        go_wp2_with (go_at_call 16; refine (swap_nil _ _ _ _).mono ?_; rintro e w' ⟨rfl, rfl⟩)
        go_ret2
        exact ⟨rfl, hb _⟩
      · have d2 : (k == 2) = false := beq_eq_false_iff_ne.2 c2
        go_enter Try.func18, Try.ntmps18
        go_wp2_with (go_at_call 15; refine (add_nil _ _ _).mono ?_; rintro e w' ⟨rfl, rfl⟩)
        go_ret2
        exact ⟨rfl, hb _⟩
/-- An act. -/
structure A4 where
  k : Int
  a : Int
  x : Int
  y : Int
def A4.V (q : Nat → A4) (i j : Nat) : Value := match j with
  | 0 => .int .i64 (q i).k
  | 1 => .int .i64 (q i).a
  | 2 => .int .u64 (q i).x
  | _ => .int .u64 (q i).y
/-- Rows of acts. -/
structure Acts (w : World) (A : Option Addr) (n : Nat) (q : Nat → A4) : Prop where
  sl : Sl w A n 4 (A4.V q)
  x : ∀ i, i < n → 0 ≤ (q i).x ∧ (q i).x < 18446744073709551616
  y : ∀ i, i < n → 0 ≤ (q i).y ∧ (q i).y < 18446744073709551616
  big : n ≤ 1152921504606846976
theorem Acts.below {w w' : World} {A n q N} (h : Acts w A n q) (hb : Below N w w') (hN : w.heap.size ≤ N) : Acts w' A n q := ⟨h.sl.below hb hN, h.x, h.y, h.big⟩
theorem Acts.at_ {w : World} {A n q} (h : Acts w A n q) {i : Nat} (hi : i < n) : ∃ b off, A = some ⟨b, off, none⟩ ∧ w.cell? ⟨b, off + i * 4, none⟩ = some (.int .i64 (q i).k) ∧ w.cell? ⟨b, off + i * 4 + 1, none⟩ = some (.int .i64 (q i).a) ∧ w.cell? ⟨b, off + i * 4 + 2, none⟩ = some (.int .u64 (q i).x) ∧ w.cell? ⟨b, off + i * 4 + 3, none⟩ = some (.int .u64 (q i).y) := by
  obtain ⟨b, off, e, hc⟩ := h.sl.at_ hi
  exact ⟨b, off, e, hc 0 (by decide), hc 1 (by decide), hc 2 (by decide), hc 3 (by decide)⟩
theorem none_c (A : Option Addr) (n c : Nat) (q : Nat → A4) (w : World) (h : Acts w A n q) (hc : n ≤ c) : Calls Try.prog 6 #[.slice A n c] w fun e w' => e = .returned (.bool true) ∧ Below w.heap.size w w' := by
  have hB := Lib.hid h.big
  replace h := Lib.hid h
  by_cases c3 : n ≤ 300
  · go_enter Try.func6, Try.ntmps6
    go_wp2
    go_loopw [4] (fun z wr => ∃ j : Nat, j ≤ n ∧ z = .int .i64 (j : Int) ∧ Below w.heap.size w wr) (fun z _ => n - (intOf z).toNat)
    case atStart => exact ⟨0, Nat.zero_le _, rfl, Below.refl _ _⟩
    case round =>
      obtain ⟨j, hj, rfl, hBj⟩ := hrel
      by_cases hlt : j < n
      · obtain ⟨b, off, rfl, x0, x1, x2, x3⟩ := (h.out.below hBj (Nat.le_refl _)).at_ hlt
        replace hBj := Lib.hid hBj
        go_wp2_with (go_at_call 18; refine (does_nil _ _ _ _ _).mono ?_; rintro e w' ⟨rfl, hb⟩; replace hb := Lib.hid hb)
        go_roundw
        case rel => exact ⟨j + 1, by omega, by go_num, hBj.out.trans (hb.out.mono hBj.out.size)⟩
        case measure => simp [intOf]; omega
      · have : j = n := by omega
        subst this
        replace hBj := Lib.hid hBj
        go_wp2_with (first
          | (go_at_call 23; refine (size_nil _).mono ?_; rintro e w' ⟨rfl, rfl⟩)
          | (go_at_call 19; refine (touches_nil _).mono ?_; rintro e w' ⟨rfl, rfl⟩)
          | (go_at_call 20; refine (last_nil _).mono ?_; rintro e w1 ⟨rfl, hb1⟩; replace hb1 := Lib.hid hb1)
          | (go_at_call 22; refine (words_nil _).mono ?_; rintro e w' ⟨rfl, rfl⟩)
          | (go_at_call 24; refine (copy_nil _).mono ?_; rintro e w' ⟨rfl, rfl⟩)
          | (go_at_call 13; refine (awake_c _).mono ?_; rintro e w2 ⟨rfl, hb2⟩; replace hb2 := Lib.hid hb2))
        go_ret
        have hb1' := hBj.out.trans (hb1.out.mono hBj.out.size)
        exact ⟨rfl, hb1'.trans (hb2.out.mono hb1'.size)⟩
  · have c4 : (300 : Int) < n := by omega
    have hb := hB.out
    go_enter Try.func6, Try.ntmps6
    go_wp2_with (go_at_call 13; refine (awake_c _).mono ?_; rintro e w' ⟨rfl, hb⟩; replace hb := Lib.hid hb)
    go_ret
    exact ⟨rfl, hb.out⟩
end Go.Proofs.Ytljfpkdbooineaa.MemN
