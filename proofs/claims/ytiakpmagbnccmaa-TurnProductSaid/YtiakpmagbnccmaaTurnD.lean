/-
  Contracts of layer 3's number functions, of its reference and of the document's examples; conditions: the words' kinds.
-/
import Derived.Test.YtiakpmagbnccmaaTurnC
import Derived.Test.YtiakpmagbnccmaaPTurnBornx1
import Derived.Test.YtiakpmagbnccmaaPTurnBarriersx1
import Derived.Test.YtiakpmagbnccmaaPTurnStepsx1
set_option linter.unusedVariables false
set_option linter.unusedSectionVars false
namespace Go.Proofs.Ytiakpmagbnccmaa.TurnC
open Go.RowKit Go.Proofs.Ytiakpmagbnccmaa.Fl Go.Proofs.Ytiakpmagbnccmaa.Core Go.Proofs.YtiakpmagbnccmaaW.PrintWords Go.Proofs.YtiakpmagbnccmaaW.PrintLast Go.Proofs.YtiakpmagbnccmaaW.PrintMore

def bkV (a : Int) : Int := (a / 4 + 1) % 2
def boV (a : Int) : Int := if a % 4 = 0 then 1 - bkV a else bkV a
theorem bkV_bd (a : Int) : 0 ≤ bkV a ∧ bkV a ≤ 1 := by unfold bkV; omega
theorem boV_bd (a : Int) : 0 ≤ boV a ∧ boV a ≤ 1 := by have := bkV_bd a; unfold boV; split <;> omega
section
variable (a : Int) (h0 : 0 ≤ a) (h1 : a < 18446744073709551616) (w : World)
include h0 h1
theorem pcycle : PTurnBorn.turn_Cycle.f a = some (a / 4) := by
  unfold PTurnBorn.turn_Cycle.f
  rw [Int.tdiv_eq_ediv_of_nonneg h0, wrap_u64_id _ (by omega) (by omega)]
theorem cycle_c : Calls Try.prog 21 #[.int .u64 a] w fun e w' => e = .returned (.int .u64 (a / 4)) ∧ Drawn0 w w' := PTurnBorn.turn_Cycle.calls a _ w (pcycle a h0 h1)
theorem pblack : PTurnBorn.turn_Black.f a = some (bkV a) := by
  unfold PTurnBorn.turn_Black.f bkV
  rw [pcycle a h0 h1, Option.bind_some, wrap_u64_id _ (by omega) (by omega), Int.tmod_eq_emod_of_nonneg (by omega), wrap64_id _ (by omega) (by omega)]
theorem black_c : Calls Try.prog 22 #[.int .u64 a] w fun e w' => e = .returned (.int .i64 (bkV a)) ∧ Drawn0 w w' := PTurnBorn.turn_Black.calls a _ w (pblack a h0 h1)
theorem pborn : PTurnBorn.turn_Born.f a = some (boV a) := by
  have := bkV_bd a
  unfold PTurnBorn.turn_Born.f boV
  rw [pblack a h0 h1, Option.bind_some, Option.bind_some, Int.tmod_eq_emod_of_nonneg (by omega), wrap64_id _ (by omega) (by omega)]
  split <;> rfl
theorem born_c : Calls Try.prog 19 #[.int .u64 a] w fun e w' => e = .returned (.int .i64 (boV a)) ∧ Drawn0 w w' := PTurnBorn.turn_Born.calls a _ w (pborn a h0 h1)
theorem pphase : PTurnBorn.withyref03_Phase.f a = some (a % 4) := by
  unfold PTurnBorn.withyref03_Phase.f
  rw [Int.tmod_eq_emod_of_nonneg h0, wrap64_id _ (by omega) (by omega)]
theorem phase_c : Calls Try.prog 12 #[.int .u64 a] w fun e w' => e = .returned (.int .i64 (a % 4)) ∧ Drawn0 w w' := PTurnBorn.withyref03_Phase.calls a _ w (pphase a h0 h1)
theorem prBlack : PTurnBorn.withyref03_Black.f a = some (bkV a) := by
  unfold PTurnBorn.withyref03_Black.f bkV
  rw [Int.tdiv_eq_ediv_of_nonneg h0, wrap_u64_id _ (by omega) (by omega), Int.tmod_eq_emod_of_nonneg (by omega)]
  split <;> (congr 1; omega)
theorem rBlack_c : Calls Try.prog 23 #[.int .u64 a] w fun e w' => e = .returned (.int .i64 (bkV a)) ∧ Drawn0 w w' := PTurnBorn.withyref03_Black.calls a _ w (prBlack a h0 h1)
theorem prBorn : PTurnBorn.withyref03_Born.f a = some (boV a) := by
  have := bkV_bd a
  unfold PTurnBorn.withyref03_Born.f boV
  rw [pphase a h0 h1, Option.bind_some, prBlack a h0 h1, Option.bind_some, Option.bind_some, wrap64_id _ (by omega) (by omega)]
  split <;> rfl
theorem rBorn_c : Calls Try.prog 20 #[.int .u64 a] w fun e w' => e = .returned (.int .i64 (boV a)) ∧ Drawn0 w w' := PTurnBorn.withyref03_Born.calls a _ w (prBorn a h0 h1)
def feV (a : Int) : Bool := decide (a % 4 = 1) || decide (a % 4 = 2)
theorem pFenced : PTurnBarriers.turn_Fenced.f a = some (feV a) := by
  unfold PTurnBarriers.turn_Fenced.f feV
  rw [Int.tmod_eq_emod_of_nonneg h0]
  by_cases c : a % 4 = 1
  · simp [c]
  · rw [if_neg c, decide_eq_false c, Bool.false_or]
    congr 1
theorem fenced_c : Calls Try.prog 28 #[.int .u64 a] w fun e w' => e = .returned (.bool (feV a)) ∧ Drawn0 w w' := PTurnBarriers.turn_Fenced.calls a _ w (pFenced a h0 h1)
theorem prBarrier : PTurnBarriers.withyref03_Barrier.f a = some (feV a) := by
  have e : PTurnBarriers.withyref03_Phase.f a = some (a % 4) := pphase a h0 h1
  unfold PTurnBarriers.withyref03_Barrier.f feV
  rw [e, Option.bind_some, Option.bind_some]
  by_cases c : a % 4 = 1
  · simp [c]
  · rw [if_neg c, decide_eq_false c, Bool.false_or]
    congr 1
theorem rBarrier_c : Calls Try.prog 27 #[.int .u64 a] w fun e w' => e = .returned (.bool (feV a)) ∧ Drawn0 w w' := PTurnBarriers.withyref03_Barrier.calls a _ w (prBarrier a h0 h1)
theorem at_i : Calls Try.prog 14 #[.int .u64 a] w fun r w' => r = .returned (cV (pR a.toNat) (pI a.toNat)) ∧ w = w' := by
  have := at_c a.toNat (by omega) w
  rwa [Int.toNat_of_nonneg h0] at this
end
theorem parts_c (k : Nat) (hk : k < 4) (w : World) : Calls Try.prog 11 #[.int .i64 (k : Int)] w fun e w' => e = .returned (.tuple #[.int .i64 (pR k), .int .i64 (pI k)]) ∧ Below w.heap.size w w' := by
  refine PTurnSteps.withyref03_Parts.calls _ _ _ w ?_
  match k, hk with
  | 0, _ => decide +kernel
  | 1, _ => decide +kernel
  | 2, _ => decide +kernel
  | 3, _ => decide +kernel
theorem q_ph (k : Nat) : quV (pR k) (pI k) = ((k % 4 : Nat) : Int) := by
  unfold pR pI
  have h := Nat.mod_lt k (show 0 < 4 by decide)
  generalize k % 4 = j at *
  match j, h with
  | 0, _ => decide
  | 1, _ => decide
  | 2, _ => decide
  | 3, _ => decide
theorem q_bd (a b : Int) : -1 ≤ quV a b ∧ quV a b ≤ 3 := by unfold quV; repeat' split
                                                            all_goals omega
def mulQ (j k : Nat) : Option Int := (cMulBits (F (pR k)) (F (pI k)) (F (pR j)) (Op.negFloat .f64 (F (pI j)))).map fun p => quR p.1 p.2
theorem mulQ_4 : ∀ j k : Fin 4, mulQ j.1 k.1 = some (((k.1 + 4 - j.1) % 4 : Nat) : Int) := by decide +kernel
theorem mul_ph (j k : Nat) : ∃ re im, cMulBits (F (pR k)) (F (pI k)) (F (pR j)) (Op.negFloat .f64 (F (pI j))) = some (re, im) ∧ quR re im = (((k % 4 + 4 - j % 4) % 4 : Nat) : Int) := by
  have h := mulQ_4 ⟨j % 4, Nat.mod_lt _ (by decide)⟩ ⟨k % 4, Nat.mod_lt _ (by decide)⟩
  unfold mulQ at h
  rw [show pR (k % 4) = pR k from by unfold pR; rw [Nat.mod_mod], show pI (k % 4) = pI k from by unfold pI; rw [Nat.mod_mod], show pR (j % 4) = pR j from by unfold pR; rw [Nat.mod_mod], show pI (j % 4) = pI j from by unfold pI; rw [Nat.mod_mod]] at h
  obtain ⟨⟨re, im⟩, e, f⟩ := Option.map_eq_some_iff.1 h
  exact ⟨re, im, e, f⟩
theorem neg_run' (x : Nat) (w : World) : (Op.unary .neg (.float .f64 x)).run Try.prog w = .ok (.float .f64 (Op.negFloat .f64 x)) w := rfl
attribute [local go_sem] neg_run'
attribute [local irreducible] F Op.negFloat quR quV
theorem btw_r (nb fa fb fc fd re im : Nat) (q1 : 0 ≤ quR fa fb) (q2 : 0 ≤ quR fc fd) (hn : Op.negFloat .f64 fb = nb) (hmul : ∀ t w, (binOp .mul t (.complex .f64 fc fd) (.complex .f64 fa nb)).run Try.prog w = .ok (.complex .f64 re im) w) (w : World) :
    Calls Try.prog 17 #[.complex .f64 fa fb, .complex .f64 fc fd] w fun e w' => e = .returned (.int .i64 (quR re im)) ∧ w = w' := by
  go_enter Try.func17, Try.ntmps17
  go_wp2_with (go_at_call 15; refine (quarter_r _ _ _).mono ?_; rintro e w1 ⟨rfl, rfl⟩)
  go_ret
  exact ⟨rfl, rfl⟩
theorem btw_n1 (fa fb fc fd : Nat) (q1 : quR fa fb < 0) (w : World) :
    Calls Try.prog 17 #[.complex .f64 fa fb, .complex .f64 fc fd] w fun e w' => e = .returned (.int .i64 (-1)) ∧ w = w' := by
  go_enter Try.func17, Try.ntmps17
  go_wp2_with (go_at_call 15; refine (quarter_r _ _ _).mono ?_; rintro e w1 ⟨rfl, rfl⟩)
  go_ret
  exact ⟨rfl, rfl⟩
theorem btw_n2 (fa fb fc fd : Nat) (q1 : 0 ≤ quR fa fb) (q2 : quR fc fd < 0) (w : World) :
    Calls Try.prog 17 #[.complex .f64 fa fb, .complex .f64 fc fd] w fun e w' => e = .returned (.int .i64 (-1)) ∧ w = w' := by
  go_enter Try.func17, Try.ntmps17
  go_wp2_with (go_at_call 15; refine (quarter_r _ _ _).mono ?_; rintro e w1 ⟨rfl, rfl⟩)
  go_ret
  exact ⟨rfl, rfl⟩
/-- How many quarters: between any two phases; or that one is none. -/
theorem btw_ph (j k : Nat) (w : World) : Calls Try.prog 17 #[cV (pR j) (pI j), cV (pR k) (pI k)] w fun e w' => e = .returned (.int .i64 (((k % 4 + 4 - j % 4) % 4 : Nat) : Int)) ∧ w = w' := by
  obtain ⟨re, im, hm, hq⟩ := mul_ph j k
  have q1 : 0 ≤ quR (F (pR j)) (F (pI j)) := by rw [quR_F _ _ (pB j).1 (pB j).2, q_ph]; omega
  have q2 : 0 ≤ quR (F (pR k)) (F (pI k)) := by rw [quR_F _ _ (pB k).1 (pB k).2, q_ph]; omega
  rw [← hq]
  exact btw_r _ _ _ _ _ re im q1 q2 rfl (fun t w => run_complex_mul (P := Try.prog) w t _ _ _ _ re im hm) w
theorem btw_none (a b c d : Int) (ha : B a) (hb : B b) (hc : B c) (hd : B d) (h : quV a b < 0 ∨ quV c d < 0) (w : World) : Calls Try.prog 17 #[cV a b, cV c d] w fun e w' => e = .returned (.int .i64 (-1)) ∧ w = w' := by
  rw [← quR_F a b ha hb, ← quR_F c d hc hd] at h
  by_cases c1 : quR (F a) (F b) < 0
  · exact btw_n1 _ _ _ _ c1 w
  · exact btw_n2 _ _ _ _ (by omega) (by omega) w
/-- How many quarters, or -1. -/
def btV (a b c d : Int) : Int := if quV a b < 0 ∨ quV c d < 0 then -1 else (quV c d + 4 - quV a b) % 4
theorem ph_of (a b : Int) (h : 0 ≤ quV a b) : ∃ k : Nat, k < 4 ∧ a = pR k ∧ b = pI k := by
  unfold quV at h
  repeat' split at h
  · rename_i c; exact ⟨0, by decide, c.1, c.2⟩
  · rename_i _ c; exact ⟨1, by decide, c.1, c.2⟩
  · rename_i _ _ c; exact ⟨2, by decide, c.1, c.2⟩
  · rename_i _ _ _ c; exact ⟨3, by decide, c.1, c.2⟩
  · omega
theorem btw_c (a b c d : Int) (ha : B a) (hb : B b) (hc : B c) (hd : B d) (w : World) : Calls Try.prog 17 #[cV a b, cV c d] w fun e w' => e = .returned (.int .i64 (btV a b c d)) ∧ w = w' := by
  unfold btV
  by_cases h : quV a b < 0 ∨ quV c d < 0
  · rw [if_pos h]; exact btw_none a b c d ha hb hc hd h w
  · rw [if_neg h]
    obtain ⟨j, hj, rfl, rfl⟩ := ph_of a b (by omega)
    obtain ⟨k, hk, rfl, rfl⟩ := ph_of c d (by omega)
    have := btw_ph j k w
    rw [q_ph, q_ph]
    rwa [show (((k % 4 : Nat) : Int) + 4 - ((j % 4 : Nat) : Int)) % 4 = (((k % 4 + 4 - j % 4) % 4 : Nat) : Int) from by omega]
theorem parts_i (k : Int) (h0 : 0 ≤ k) (h1 : k < 4) (w : World) : Calls Try.prog 11 #[.int .i64 k] w fun e w' => e = .returned (.tuple #[.int .i64 (pR k.toNat), .int .i64 (pI k.toNat)]) ∧ Below w.heap.size w w' := by
  have := parts_c k.toNat (by omega) w
  rwa [Int.toNat_of_nonneg h0] at this
theorem awake_c (w : World) : Calls Try.prog 16 #[] w fun e w' => e = .returned (.bool true) ∧ Drawn0 w w' := by
  have hb1 : btV (pR 3) (pI 3) (pR 5) (pI 5) = 2 := by decide +kernel
  go_enter Try.func16, Try.ntmps16
  go_wp2_with (first | (go_at_call 14; refine (at_i _ (by omega) (by omega) _).mono ?_; rintro e w' ⟨rfl, rfl⟩) | (go_at_call 13; refine (is_c _ _ _ _ (by first | exact (pB _).1 | exact (pB _).2 | assumption | (unfold B; decide) | (repeat (apply B_neg); assumption)) (by first | exact (pB _).1 | exact (pB _).2 | assumption | (unfold B; decide) | (repeat (apply B_neg); assumption)) (by first | exact (pB _).1 | exact (pB _).2 | assumption | (unfold B; decide) | (repeat (apply B_neg); assumption)) (by first | exact (pB _).1 | exact (pB _).2 | assumption | (unfold B; decide) | (repeat (apply B_neg); assumption)) _).mono ?_; rintro e w' ⟨rfl, rfl⟩) | (go_at_call 17; refine (btw_c _ _ _ _ (by first | exact (pB _).1 | exact (pB _).2 | assumption | (unfold B; decide) | (repeat (apply B_neg); assumption)) (by first | exact (pB _).1 | exact (pB _).2 | assumption | (unfold B; decide) | (repeat (apply B_neg); assumption)) (by first | exact (pB _).1 | exact (pB _).2 | assumption | (unfold B; decide) | (repeat (apply B_neg); assumption)) (by first | exact (pB _).1 | exact (pB _).2 | assumption | (unfold B; decide) | (repeat (apply B_neg); assumption)) _).mono ?_; rintro e w' ⟨rfl, rfl⟩) | (go_at_call 19; refine (born_c _ (by omega) (by omega) _).mono ?_; rintro e w' ⟨rfl, ⟨nd, rfl⟩⟩) | (go_at_call 20; refine (rBorn_c _ (by omega) (by omega) _).mono ?_; rintro e w' ⟨rfl, ⟨nd, rfl⟩⟩) | (go_at_call 21; refine (cycle_c _ (by omega) (by omega) _).mono ?_; rintro e w' ⟨rfl, ⟨nd, rfl⟩⟩) | (go_at_call 22; refine (black_c _ (by omega) (by omega) _).mono ?_; rintro e w' ⟨rfl, ⟨nd, rfl⟩⟩) | (go_at_call 23; refine (rBlack_c _ (by omega) (by omega) _).mono ?_; rintro e w' ⟨rfl, ⟨nd, rfl⟩⟩) | (go_at_call 12; refine (phase_c _ (by omega) (by omega) _).mono ?_; rintro e w' ⟨rfl, ⟨nd, rfl⟩⟩) | (go_at_call 28; refine (fenced_c _ (by omega) (by omega) _).mono ?_; rintro e w' ⟨rfl, ⟨nd, rfl⟩⟩) | (go_at_call 27; refine (rBarrier_c _ (by omega) (by omega) _).mono ?_; rintro e w' ⟨rfl, ⟨nd, rfl⟩⟩) | (go_at_call 18; refine (of_c _ _ _).mono ?_; rintro e w' ⟨rfl, rfl⟩) | (go_at_call 26; refine (barrier_c _ _ (by first | exact (pB _).1 | exact (pB _).2 | assumption | (unfold B; decide) | (repeat (apply B_neg); assumption)) (by first | exact (pB _).1 | exact (pB _).2 | assumption | (unfold B; decide) | (repeat (apply B_neg); assumption)) _).mono ?_; rintro e w' ⟨rfl, rfl⟩) | (go_at_call 15; refine (quarter_c _ _ (by first | exact (pB _).1 | exact (pB _).2 | assumption | (unfold B; decide) | (repeat (apply B_neg); assumption)) (by first | exact (pB _).1 | exact (pB _).2 | assumption | (unfold B; decide) | (repeat (apply B_neg); assumption)) _).mono ?_; rintro e w' ⟨rfl, rfl⟩) | (go_at_call 24; refine (next_c _ _ (by first | exact (pB _).1 | exact (pB _).2 | assumption | (unfold B; decide) | (repeat (apply B_neg); assumption)) (by first | exact (pB _).1 | exact (pB _).2 | assumption | (unfold B; decide) | (repeat (apply B_neg); assumption)) _).mono ?_; rintro e w' ⟨rfl, rfl⟩) | (go_at_call 25; refine (back_c _ _ (by first | exact (pB _).1 | exact (pB _).2 | assumption | (unfold B; decide) | (repeat (apply B_neg); assumption)) (by first | exact (pB _).1 | exact (pB _).2 | assumption | (unfold B; decide) | (repeat (apply B_neg); assumption)) _).mono ?_; rintro e w' ⟨rfl, rfl⟩))
  go_ret
  exact ⟨rfl, ⟨_, rfl⟩⟩
end Go.Proofs.Ytiakpmagbnccmaa.TurnC
