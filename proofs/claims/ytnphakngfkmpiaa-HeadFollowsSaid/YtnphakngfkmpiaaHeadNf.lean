/-
  The law HeadFollows: walks, for every word in every epoch.
-/
import Derived.Test.YtnphakngfkmpiaaHeadM
set_option linter.unusedVariables false
namespace Go.Proofs.Ytnphakngfkmpiaa.HeadC
open Go.RowKit Go.Proofs.Ytnphakngfkmpiaa.PHeadShades Go.Proofs.YtnphakngfkmpiaaW.PrintWords Go.Proofs.YtnphakngfkmpiaaW.PrintLast Go.Proofs.Ytnphakngfkmpiaa.Core

set_option maxHeartbeats 4000000 in
theorem lawFollows_yes (x e s b r : Int) (h0 : 0 ≤ x) (h1 : x < 18446744073709551616) (h2 : 0 ≤ e) (h3 : e < 18446744073709551616) (s0 : 0 ≤ s) (s1 : s < 18446744073709551616) (b0 : 0 ≤ b) (b1 : b < 18446744073709551616) (r0 : 0 ≤ r) (r1 : r < 18446744073709551616)
    (S1 : Hid (shadedV x e = (s, true))) (S2 : Hid (shadedV s e = (s, false))) (S3 : Hid (shadedV r e = (r, false))) (R1 : Hid (retiredV x e = (r, true))) (R2 : Hid (retiredV s e = (s, false)))
    (B1 : Hid (blackenedV s = (b, true))) (B2 : Hid (blackenedV b = (b, false))) (M1 : Hid (markedB s e = true)) (M2 : Hid (markedB b e = true)) (M3 : Hid (markedB r e = false)) (w : World) :
    Calls Try.prog 12 #[.int .u64 x, .int .u64 e] w fun r w' => r = .returned (.bool true) ∧ Below w.heap.size w w' := by
  go_enter Try.func12, Try.ntmps12
  go_wp2_with (first | (go_at_call 43; refine (shaded_c _ _ (by omega) (by omega) h2 h3 _).mono ?_; rintro r v1 ⟨rfl, hb1⟩; (first | rw [S1.out] | rw [S2.out] | rw [S3.out]); obtain ⟨hc, hf⟩ := bcell hb1; have hl := fun b (h : b < _) => Nat.lt_of_lt_of_le h hb1.size; replace hb1 := Lib.hid hb1) | (go_at_call 39; refine (retired_c _ _ (by omega) (by omega) h2 h3 _).mono ?_; rintro r v2 ⟨rfl, hb2⟩; (first | rw [R1.out] | rw [R2.out]); obtain ⟨hc, hf⟩ := bcell hb2; have hl := fun b (h : b < _) => Nat.lt_of_lt_of_le h hb2.size; replace hb2 := Lib.hid hb2) | (go_at_call 44; refine (blackened_c _ (by omega) (by omega) _).mono ?_; rintro r v3 ⟨rfl, hb3⟩; (first | rw [B1.out] | rw [B2.out]); obtain ⟨hc, hf⟩ := bcell hb3; have hl := fun b (h : b < _) => Nat.lt_of_lt_of_le h hb3.size; replace hb3 := Lib.hid hb3) | (go_at_call 46; refine (marked_c _ _ (by omega) (by omega) h2 h3 _).mono ?_; rintro r v4 ⟨rfl, hb4⟩; (first | rw [M1.out] | rw [M2.out] | rw [M3.out]); obtain ⟨hc, hf⟩ := bcell hb4; have hl := fun b (h : b < _) => Nat.lt_of_lt_of_le h hb4.size; replace hb4 := Lib.hid hb4) | (go_at_call 34; refine (awake_c _).mono ?_; rintro r w9 ⟨rfl, hb⟩; replace hb := Lib.hid hb))
  go_ret
  exact ⟨rfl, by repeat (first | exact Below.refl _ _ | apply pw_below_drewN | refine below_alloc ?_ _ | (refine bT ?_ (Hid.out (by assumption))) | (refine Below.setCell ?_ (by simp <;> omega) _))⟩
set_option maxHeartbeats 4000000 in
theorem lawFollows_no (x e : Int) (h0 : 0 ≤ x) (h1 : x < 18446744073709551616) (h2 : 0 ≤ e) (h3 : e < 18446744073709551616)
    (S1 : Hid (shadedV x e = (x, false))) (R1 : Hid (retiredV x e = (x, false))) (w : World) :
    Calls Try.prog 12 #[.int .u64 x, .int .u64 e] w fun r w' => r = .returned (.bool true) ∧ Below w.heap.size w w' := by
  go_enter Try.func12, Try.ntmps12
  go_wp2_with (first | (go_at_call 43; refine (shaded_c _ _ h0 h1 h2 h3 _).mono ?_; rintro r v1 ⟨rfl, hb1⟩; rw [S1.out]; obtain ⟨hc, hf⟩ := bcell hb1; have hl := fun b (h : b < _) => Nat.lt_of_lt_of_le h hb1.size; replace hb1 := Lib.hid hb1) | (go_at_call 39; refine (retired_c _ _ h0 h1 h2 h3 _).mono ?_; rintro r v2 ⟨rfl, hb2⟩; rw [R1.out]; obtain ⟨hc, hf⟩ := bcell hb2; have hl := fun b (h : b < _) => Nat.lt_of_lt_of_le h hb2.size; replace hb2 := Lib.hid hb2) | (go_at_call 34; refine (awake_c _).mono ?_; rintro r w9 ⟨rfl, hb⟩; replace hb := Lib.hid hb))
  go_ret
  exact ⟨rfl, by repeat (first | exact Below.refl _ _ | apply pw_below_drewN | refine below_alloc ?_ _ | (refine bT ?_ (Hid.out (by assumption))) | (refine Below.setCell ?_ (by simp <;> omega) _))⟩
theorem lawFollows (x e : Int) (h0 : 0 ≤ x) (h1 : x < 18446744073709551616) (h2 : 0 ≤ e) (h3 : e < 18446744073709551616) (w : World) :
    Calls Try.prog 12 #[.int .u64 x, .int .u64 e] w fun r w' => r = .returned (.bool true) ∧ Below w.heap.size w w' := by
  by_cases hd : livesB x = true ∧ uM x ≠ blackI e
  · obtain ⟨b1, b2, b3, b4, b5, b6, b7, b8, b9, b10⟩ := u_bd x h0 h1
    obtain ⟨c1, c2⟩ := black_bd e
    have hk : uK x = 1 ∨ uK x = 2 := by
      have := hd.1
      unfold livesB at this
      simp at this
      exact this.2
    have rs : 0 ≤ uK x ∧ uK x ≤ 4 ∧ 0 ≤ blackI e ∧ blackI e ≤ 1 ∧ 0 ≤ uA x ∧ uA x ≤ 15 ∧ 0 ≤ uN x ∧ uN x ≤ 4294967295 ∧ 0 ≤ uS x ∧ uS x ≤ 65535 := by omega
    have rr : (0 : Int) ≤ 3 ∧ (3 : Int) ≤ 4 ∧ 0 ≤ uM x ∧ uM x ≤ 1 ∧ 0 ≤ uA x ∧ uA x ≤ 15 ∧ 0 ≤ uN x ∧ uN x ≤ 4294967295 ∧ 0 ≤ e % 65536 ∧ e % 65536 ≤ 65535 := by omega
    obtain ⟨so, sk, sm, sg, sa, sn, ss⟩ := u_headN (g := true) rs
    obtain ⟨bo, bk, bm, bg, ba, bn, bs⟩ := u_headN (g := false) rs
    obtain ⟨ro, rk, rm, rg, ra, rn, rs'⟩ := u_headN (g := false) rr
    have S1 : shadedV x e = (headN (uK x) (blackI e) true (uA x) (uN x) (uS x), true) := by unfold shadedV; rw [if_pos hd]
    have R1 : retiredV x e = (headN 3 (uM x) false (uA x) (uN x) (e % 65536), true) := by unfold retiredV; rw [if_pos hd]
    have hsb := headN_bd (g := true) rs
    have hbb := headN_bd (g := false) rs
    have hrb := headN_bd (g := false) rr
    have B1 : blackenedV (headN (uK x) (blackI e) true (uA x) (uN x) (uS x)) = (headN (uK x) (blackI e) false (uA x) (uN x) (uS x), true) := by
      unfold blackenedV; rw [if_pos ⟨so, sg⟩, sk, sm, sa, sn, ss]
    generalize headN (uK x) (blackI e) true (uA x) (uN x) (uS x) = s at *
    generalize headN (uK x) (blackI e) false (uA x) (uN x) (uS x) = b at *
    generalize headN 3 (uM x) false (uA x) (uN x) (e % 65536) = r at *
    have ls : livesB s = true := by unfold livesB; rw [so, sk]; rcases hk with h | h <;> rw [h] <;> rfl
    have lb : livesB b = true := by unfold livesB; rw [bo, bk]; rcases hk with h | h <;> rw [h] <;> rfl
    have lr : livesB r = false := by unfold livesB; rw [ro, rk]; rfl
    refine lawFollows_yes x e s b r h0 h1 h2 h3 hsb.1 hsb.2 hbb.1 hbb.2 hrb.1 hrb.2 (Lib.hid S1) (Lib.hid ?_) (Lib.hid ?_) (Lib.hid R1) (Lib.hid ?_) (Lib.hid B1) (Lib.hid ?_) (Lib.hid ?_) (Lib.hid ?_) (Lib.hid ?_) w
    · unfold shadedV; rw [if_neg (by simp [sm])]
    · unfold shadedV; rw [if_neg (by simp [lr])]
    · unfold retiredV; rw [if_neg (by simp [sm])]
    · unfold blackenedV; rw [if_neg (by simp [bg])]
    · unfold markedB; rw [ls, sm]; simp
    · unfold markedB; rw [lb, bm]; simp
    · unfold markedB; rw [lr]; rfl
  · exact lawFollows_no x e h0 h1 h2 h3 (Lib.hid (by unfold shadedV; rw [if_neg hd])) (Lib.hid (by unfold retiredV; rw [if_neg hd])) w
end Go.Proofs.Ytnphakngfkmpiaa.HeadC
