/-
  Contracts of layer 3 (turn) at complex numbers of whole parts; conditions: parts below 2^53 in size.
-/
import Derived.Test.YtiakpmagbnccmaaRows
import Derived.Test.YtiakpmagbnccmaaFl
import Derived.Test.YtiakpmagbnccmaaCore
import Derived.Laws.ComplexArith
import Derived.WalkKit
import Derived.WalkSpells
import Derived.WalkLawsBesides
import Derived.KernelRfl
import Derived.Lib.Hide
import Derived.Outline
set_option linter.unusedVariables false
namespace Go.Proofs.Ytiakpmagbnccmaa.TurnC
open Go.RowKit Go.Proofs.Ytiakpmagbnccmaa.Fl Go.Proofs.Ytiakpmagbnccmaa.Core

/-- A whole number well within a float. -/
def B (a : Int) : Prop := a.natAbs < 2 ^ 53
theorem B_neg {a : Int} (h : B a) : B (-a) := by unfold B at *; rwa [Int.natAbs_neg]
def cV (a b : Int) : Value := .complex .f64 (F a) (F b)
theorem add_run (x r : Nat) (h : Ieee.double.add x 0 = some r) (w : World) : (binOp .add 44 (.float .f64 x) (.float .f64 0)).run Try.prog w = .ok (.float .f64 r) w :=
  run_float_arith (P := Try.prog) w .add 44 .f64 x 0 r h
theorem neg_run (x : Nat) (w : World) : (Op.unary .neg (.float .f64 x)).run Try.prog w = .ok (.float .f64 (Op.negFloat .f64 x)) w := rfl
attribute [local go_sem] neg_run
theorem clean_c (x y rx ry : Nat) (hx : Ieee.double.add x 0 = some rx) (hy : Ieee.double.add y 0 = some ry) (w : World) :
    Calls Try.prog 29 #[.complex .f64 x y] w fun e w' => e = .returned (.complex .f64 rx ry) ∧ w = w' := by
  have ax := add_run x rx hx
  have ay := add_run y ry hy
  clear hx hy
  go_enter Try.func29, Try.ntmps29
  go_wp2
  go_ret
  exact ⟨rfl, rfl⟩
theorem next_c (a b : Int) (ha : B a) (hb : B b) (w : World) :
    Calls Try.prog 24 #[cV a b] w fun e w' => e = .returned (cV (-b) a) ∧ w = w' := by
  have ax := F_negadd b hb
  have ay := F_add0 a ha
  unfold cV
  go_enter Try.func24, Try.ntmps24
  go_wp2_with (go_at_call 29; refine (clean_c _ _ _ _ ax ay _).mono ?_; rintro e w' ⟨rfl, rfl⟩)
  go_ret
  exact ⟨rfl, rfl⟩
theorem back_c (a b : Int) (ha : B a) (hb : B b) (w : World) :
    Calls Try.prog 25 #[cV a b] w fun e w' => e = .returned (cV b (-a)) ∧ w = w' := by
  have ax := F_add0 b hb
  have ay := F_negadd a ha
  unfold cV
  go_enter Try.func25, Try.ntmps25
  go_wp2_with (go_at_call 29; refine (clean_c _ _ _ _ ax ay _).mono ?_; rintro e w' ⟨rfl, rfl⟩)
  go_ret
  exact ⟨rfl, rfl⟩
theorem of_c (a b : Int) (w : World) :
    Calls Try.prog 18 #[.int .i16 a, .int .i16 b] w fun e w' => e = .returned (cV a b) ∧ w = w' := by
  go_enter Try.func18, Try.ntmps18
  go_wp2
  go_ret
  exact ⟨rfl, rfl⟩
theorem ford (a c : Int) (ha : B a) (hc : B c) : (FloatKind.f64.format.order (F a) (floatOfInt FloatKind.f64 c) == some Ordering.eq) = decide (a = c) := by
  have h := F_order a c ha hc
  have e : FloatKind.f64.format.order (F a) (floatOfInt FloatKind.f64 c) = some (compare a c) := h
  rw [e, Bool.eq_iff_iff]
  simp
theorem ford' (a c : Int) (ha : B a) (hc : B c) : (FloatKind.f64.format.order (F a) (F c) == some Ordering.eq) = decide (a = c) := ford a c ha hc
theorem is_c (a b c d : Int) (ha : B a) (hb : B b) (hc : B c) (hd : B d) (w : World) :
    Calls Try.prog 13 #[cV a b, .int .i64 c, .int .i64 d] w fun e w' => e = .returned (.bool (decide (a = c) && decide (b = d))) ∧ w = w' := by
  have h1 := ford a c ha hc
  have h2 := ford b d hb hd
  unfold cV
  by_cases c1 : a = c
  · by_cases c2 : b = d
    · rw [decide_eq_true c1] at h1 ⊢
      rw [decide_eq_true c2] at h2 ⊢
      clear c1 c2
      go_enter Try.func13, Try.ntmps13
      go_wp2
      go_ret
      exact ⟨rfl, rfl⟩
    · rw [decide_eq_true c1] at h1 ⊢
      rw [decide_eq_false c2] at h2 ⊢
      clear c1 c2
      go_enter Try.func13, Try.ntmps13
      go_wp2
      go_ret
      exact ⟨rfl, rfl⟩
  · rw [decide_eq_false c1] at h1 ⊢
    clear c1
    go_enter Try.func13, Try.ntmps13
    go_wp2
    go_ret
    exact ⟨rfl, rfl⟩
theorem barrier_c (a b : Int) (ha : B a) (hb : B b) (w : World) :
    Calls Try.prog 26 #[cV a b] w fun e w' => e = .returned (.bool (decide (a < b))) ∧ w = w' := by
  have h := F_order b a hb ha
  have e : (FloatKind.f64.format.order (F b) (F a) == some Ordering.gt) = decide (a < b) := by
    have e : FloatKind.f64.format.order (F b) (F a) = some (compare b a) := h
    rw [e, Bool.eq_iff_iff]
    simp [Int.compare_eq_gt]
  rw [← e]
  clear e h
  unfold cV
  go_enter Try.func26, Try.ntmps26
  go_wp2
  go_ret
  exact ⟨rfl, rfl⟩
theorem F_one : F 1 = 4607182418800017408 := by decide
theorem F_mone : F (-1) = 13830554455654793216 := by decide
def eqB (x y : Nat) : Bool := FloatKind.f64.format.order x y == some Ordering.eq
/-- A phase's number, or -1: at bits. -/
def quR (x y : Nat) : Int := if (eqB x 4607182418800017408 && eqB y 0) = true then 0 else if (eqB x 0 && eqB y 4607182418800017408) = true then 1 else if (eqB x 13830554455654793216 && eqB y 0) = true then 2 else if (eqB x 0 && eqB y 13830554455654793216) = true then 3 else -1
/-- A phase's number, or -1. -/
def quV (a b : Int) : Int := if a = 1 ∧ b = 0 then 0 else if a = 0 ∧ b = 1 then 1 else if a = -1 ∧ b = 0 then 2 else if a = 0 ∧ b = -1 then 3 else -1
theorem q_val {u v : Int} (h : v = u) : Ending.returned (.int .i64 v) = .returned (.int .i64 u) := by rw [h]
theorem quarter_r (x y : Nat) (w : World) :
    Calls Try.prog 15 #[.complex .f64 x y] w fun e w' => e = .returned (.int .i64 (quR x y)) ∧ w = w' := by
  go_enter Try.func15, Try.ntmps15
  go_wp2
  all_goals
    go_ret
    refine ⟨q_val ?_, rfl⟩
    unfold quR eqB
    repeat' split
    all_goals first | rfl | (simp_all; done)
theorem quR_F (a b : Int) (ha : B a) (hb : B b) : quR (F a) (F b) = quV a b := by
  have h1 := ford' a 1 ha (by unfold B; decide)
  have h2 := ford' a 0 ha (by unfold B; decide)
  have h3 := ford' a (-1) ha (by unfold B; decide)
  have h4 := ford' b 1 hb (by unfold B; decide)
  have h5 := ford' b 0 hb (by unfold B; decide)
  have h6 := ford' b (-1) hb (by unfold B; decide)
  rw [F_one] at h1 h4
  rw [F_zero] at h2 h5
  rw [F_mone] at h3 h6
  unfold quR quV eqB
  rw [h1, h2, h3, h4, h5, h6]
  simp
theorem quarter_c (a b : Int) (ha : B a) (hb : B b) (w : World) :
    Calls Try.prog 15 #[cV a b] w fun e w' => e = .returned (.int .i64 (quV a b)) ∧ w = w' := by
  rw [← quR_F a b ha hb]
  exact quarter_r _ _ w
def pR (k : Nat) : Int := match k % 4 with | 0 => 1 | 1 => 0 | 2 => -1 | _ => 0
def pI (k : Nat) : Int := match k % 4 with | 0 => 0 | 1 => 1 | 2 => 0 | _ => -1
theorem pB (k : Nat) : B (pR k) ∧ B (pI k) := by
  unfold pR pI B
  have h := Nat.mod_lt k (show 0 < 4 by decide)
  generalize k % 4 = j at *
  match j, h with
  | 0, _ => decide
  | 1, _ => decide
  | 2, _ => decide
  | 3, _ => decide
theorem p_next (k : Nat) : pR (k + 1) = -pI k ∧ pI (k + 1) = pR k := by
  unfold pR pI
  rw [Nat.add_mod]
  have h := Nat.mod_lt k (show 0 < 4 by decide)
  generalize k % 4 = j at *
  match j, h with
  | 0, _ => decide
  | 1, _ => decide
  | 2, _ => decide
  | 3, _ => decide
theorem at_0 : (#[.complex .f64 4607182418800017408 0] : Array Value) = #[cV (pR 0) (pI 0)] := by rfl
theorem at_c (e : Nat) (he : (e : Int) < 18446744073709551616) (w : World) :
    Calls Try.prog 14 #[.int .u64 (e : Int)] w fun r w' => r = .returned (cV (pR e) (pI e)) ∧ w = w' := by
  have hm : IntKind.u64.wrap (Int.tmod (e : Int) 4) = ((e % 4 : Nat) : Int) := by
    rw [Int.tmod_eq_emod_of_nonneg (by omega), wrap_u64_id _ (by omega) (by omega)]; omega
  have hm' : Int.tmod (e : Int) 4 = ((e % 4 : Nat) : Int) := by
    rw [Int.tmod_eq_emod_of_nonneg (by omega)]; omega
  have hlt4 : e % 4 < 4 := Nat.mod_lt _ (by decide)
  have hfin := Lib.hid (show cV (pR e) (pI e) = cV (pR (e % 4)) (pI (e % 4)) from by unfold pR pI; rw [Nat.mod_mod])
  generalize e % 4 = m at *
  go_enter Try.func14, Try.ntmps14
  go_wp2
  go_loop [3, 6] (fun u v => ∃ j : Nat, j ≤ m ∧ u = cV (pR j) (pI j) ∧ v = .int .u64 (j : Int)) (fun _ v => m - (intOf v).toNat)
  case atStart => exact ⟨0, Nat.zero_le _, rfl, rfl⟩
  case round =>
    obtain ⟨j, hj, rfl, rfl⟩ := hrel
    have hb := pB j
    have hn := Lib.hid (p_next j)
    by_cases hlt : j < m
    · go_wp2_with (go_at_call 24; refine (next_c _ _ hb.1 hb.2 _).mono ?_; rintro e w' ⟨rfl, rfl⟩)
      go_round
      case rel => exact ⟨j + 1, by omega, by rw [hn.out.1, hn.out.2], by go_num⟩
      case measure => simp [intOf]; omega
    · have : j = m := by omega
      subst this
      go_wp2_with (go_at_call 29; refine (clean_c _ _ _ _ (F_add0 _ hb.1) (F_add0 _ hb.2) _).mono ?_; rintro e w' ⟨rfl, rfl⟩)
      go_ret
      exact ⟨by rw [hfin.out]; rfl, rfl⟩
end Go.Proofs.Ytiakpmagbnccmaa.TurnC
