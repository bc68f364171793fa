/-
  The laws of layer 4 (head): walks of HeadMade, HeadPacks, HeadUnpacks, HeadShades, HeadRetires, HeadFollows.
-/
import Derived.Test.YtnphakngfkmpiaaHeadD
set_option linter.unusedVariables false
namespace Go.Proofs.Ytnphakngfkmpiaa.HeadC
open Go.RowKit Go.Proofs.Ytnphakngfkmpiaa.PHeadShades Go.Proofs.YtnphakngfkmpiaaW.PrintWords Go.Proofs.YtnphakngfkmpiaaW.PrintLast Go.Proofs.Ytnphakngfkmpiaa.Core

theorem bcell {W w1 : World} (hb : Below W.heap.size W w1) : (∀ b o, b < W.heap.size → w1.cell? ⟨b, o, none⟩ = W.cell? ⟨b, o, none⟩) ∧ (∀ b o, b < W.heap.size → w1.frozen? ⟨b, o, none⟩ = W.frozen? ⟨b, o, none⟩) :=
  ⟨fun b o h => hb.cell (p := ⟨b, o, none⟩) h, fun b o h => hb.frozen (p := ⟨b, o, none⟩) h⟩
theorem awake_c (w : World) : Calls Try.prog 34 #[] w fun e w' => e = .returned (.bool true) ∧ Below w.heap.size w w' := by
  have he : headN 1 1 false 2 3 0 = 196681 := by decide
  go_enter Try.func34, Try.ntmps34
  go_wp2_with (go_at_call 36; refine (pack_ok 1 1 false 2 3 0 (by decide) _).mono ?_; rintro r w1 ⟨rfl, hb⟩; replace hb := Lib.hid hb)
  go_ret
  exact ⟨rfl, by repeat (first | exact Below.refl _ _ | apply pw_below_drewN | refine below_alloc ?_ _ | (refine bT ?_ (Hid.out (by assumption))) | (refine Below.setCell ?_ (by simp <;> omega) _))⟩
set_option maxHeartbeats 1000000 in
theorem lawMade_1 (k a n e : Int) (h2 : 0 ≤ e) (h3 : e < 18446744073709551616) (ha : a < 9223372036854775808) (hn : n < 9223372036854775808) (h1 : k ≠ 1) (h2' : k ≠ 2) (w : World) :
    Calls Try.prog 7 #[.int .i64 k, .int .i64 a, .int .i64 n, .int .u64 e] w fun r w' => r = .returned (.bool true) ∧ Below w.heap.size w w' := by
  have HV := Lib.hid (show madeV k a n e = (0, false) from by unfold madeV; rw [if_neg (by omega)])
  have e1 : (k != 1) = true := by simpa using h1
  have e2 : (k != 2) = true := by simpa using h2'
  clear h1 h2'
  go_enter Try.func7, Try.ntmps7
  go_wp2_with (first | (go_at_call 31; refine (made_c k a n e h2 h3 ha hn _).mono ?_; rintro r w1 ⟨rfl, hb1⟩; rw [HV.out]; replace hb1 := Lib.hid hb1) | (go_at_call 32; refine (rBorn_c e h2 h3 _).mono ?_; rintro r w2 ⟨rfl, hd⟩; replace hd := Lib.hid hd.below) | (go_at_call 34; refine (awake_c _).mono ?_; rintro r w9 ⟨rfl, hb⟩; replace hb := Lib.hid hb))
  go_ret
  exact ⟨rfl, by repeat (first | exact Below.refl _ _ | apply pw_below_drewN | refine below_alloc ?_ _ | (refine bT ?_ (Hid.out (by assumption))) | (refine Below.setCell ?_ (by simp <;> omega) _))⟩
set_option maxHeartbeats 1000000 in
theorem lawMade_no1 (a n e : Int) (h2 : 0 ≤ e) (h3 : e < 18446744073709551616) (ha : a < 9223372036854775808) (hn : n < 9223372036854775808) (hB : headB 1 (bornI e) a n 0 = false) (w : World) :
    Calls Try.prog 7 #[.int .i64 1, .int .i64 a, .int .i64 n, .int .u64 e] w fun r w' => r = .returned (.bool true) ∧ Below w.heap.size w w' := by
  have HV := Lib.hid (show madeV 1 a n e = (0, false) from by unfold madeV packV; rw [if_pos (by decide), hB]; rfl)
  have HB := Lib.hid hB
  clear hB
  go_enter Try.func7, Try.ntmps7
  go_wp2_with (first | (go_at_call 31; refine (made_c 1 a n e h2 h3 ha hn _).mono ?_; rintro r w1 ⟨rfl, hb1⟩; rw [HV.out]; replace hb1 := Lib.hid hb1) | (go_at_call 32; refine (rBorn_c e h2 h3 _).mono ?_; rintro r w2 ⟨rfl, hd⟩; replace hd := Lib.hid hd.below) | (go_at_call 33; refine (rRight_c _ _ _ _ _ _ _).mono ?_; rintro r w3 ⟨rfl, hb3⟩; rw [HB.out]; obtain ⟨hc, hf⟩ := bcell hb3; have hz := hb3.size; simp at hz; replace hb3 := Lib.hid hb3) | (go_at_call 34; refine (awake_c _).mono ?_; rintro r w9 ⟨rfl, hb⟩; replace hb := Lib.hid hb))
  go_ret
  exact ⟨rfl, by repeat (first | exact Below.refl _ _ | apply pw_below_drewN | refine below_alloc ?_ _ | (refine bT ?_ (Hid.out (by assumption))) | (refine Below.setCell ?_ (by simp <;> omega) _))⟩
set_option maxHeartbeats 1000000 in
theorem lawMade_yes1 (a n e : Int) (h2 : 0 ≤ e) (h3 : e < 18446744073709551616) (ha : a < 9223372036854775808) (hn : n < 9223372036854775808) (hB : headB 1 (bornI e) a n 0 = true) (w : World) :
    Calls Try.prog 7 #[.int .i64 1, .int .i64 a, .int .i64 n, .int .u64 e] w fun r w' => r = .returned (.bool true) ∧ Below w.heap.size w w' := by
  have HV := Lib.hid (show madeV 1 a n e = (headN 1 (bornI e) false a n 0, true) from by unfold madeV packV; rw [if_pos (by decide), hB]; rfl)
  have HB := Lib.hid hB
  have hB' := hB
  simp only [headB, decide_eq_true_eq] at hB'
  obtain ⟨_, _, c1, c2, c3, c4, c5, c6, _, _⟩ := hB'
  clear hB
  go_enter Try.func7, Try.ntmps7
  go_wp2_with (first | (go_at_call 31; refine (made_c 1 a n e h2 h3 ha hn _).mono ?_; rintro r w1 ⟨rfl, hb1⟩; rw [HV.out]; replace hb1 := Lib.hid hb1) | (go_at_call 32; refine (rBorn_c e h2 h3 _).mono ?_; rintro r w2 ⟨rfl, hd⟩; replace hd := Lib.hid hd.below) | (go_at_call 33; refine (rRight_c _ _ _ _ _ _ _).mono ?_; rintro r w3 ⟨rfl, hb3⟩; rw [HB.out]; obtain ⟨hc, hf⟩ := bcell hb3; have hz := hb3.size; simp at hz; replace hb3 := Lib.hid hb3) | (go_at_call 34; refine (awake_c _).mono ?_; rintro r w9 ⟨rfl, hb⟩; replace hb := Lib.hid hb) | (go_at_call 35; refine (rPack_c _ _ _ _ _ _ (by omega) _).mono ?_; rintro r w4 ⟨rfl, hb4⟩; replace hb4 := Lib.hid hb4))
  go_ret
  exact ⟨rfl, by repeat (first | exact Below.refl _ _ | apply pw_below_drewN | refine below_alloc ?_ _ | (refine bT ?_ (Hid.out (by assumption))) | (refine Below.setCell ?_ (by simp <;> omega) _))⟩
set_option maxHeartbeats 1000000 in
theorem lawMade_no2 (a n e : Int) (h2 : 0 ≤ e) (h3 : e < 18446744073709551616) (ha : a < 9223372036854775808) (hn : n < 9223372036854775808) (hB : headB 2 (bornI e) a n 0 = false) (w : World) :
    Calls Try.prog 7 #[.int .i64 2, .int .i64 a, .int .i64 n, .int .u64 e] w fun r w' => r = .returned (.bool true) ∧ Below w.heap.size w w' := by
  have HV := Lib.hid (show madeV 2 a n e = (0, false) from by unfold madeV packV; rw [if_pos (by decide), hB]; rfl)
  have HB := Lib.hid hB
  clear hB
  go_enter Try.func7, Try.ntmps7
  go_wp2_with (first | (go_at_call 31; refine (made_c 2 a n e h2 h3 ha hn _).mono ?_; rintro r w1 ⟨rfl, hb1⟩; rw [HV.out]; replace hb1 := Lib.hid hb1) | (go_at_call 32; refine (rBorn_c e h2 h3 _).mono ?_; rintro r w2 ⟨rfl, hd⟩; replace hd := Lib.hid hd.below) | (go_at_call 33; refine (rRight_c _ _ _ _ _ _ _).mono ?_; rintro r w3 ⟨rfl, hb3⟩; rw [HB.out]; obtain ⟨hc, hf⟩ := bcell hb3; have hz := hb3.size; simp at hz; replace hb3 := Lib.hid hb3) | (go_at_call 34; refine (awake_c _).mono ?_; rintro r w9 ⟨rfl, hb⟩; replace hb := Lib.hid hb))
  go_ret
  exact ⟨rfl, by repeat (first | exact Below.refl _ _ | apply pw_below_drewN | refine below_alloc ?_ _ | (refine bT ?_ (Hid.out (by assumption))) | (refine Below.setCell ?_ (by simp <;> omega) _))⟩
set_option maxHeartbeats 1000000 in
theorem lawMade_yes2 (a n e : Int) (h2 : 0 ≤ e) (h3 : e < 18446744073709551616) (ha : a < 9223372036854775808) (hn : n < 9223372036854775808) (hB : headB 2 (bornI e) a n 0 = true) (w : World) :
    Calls Try.prog 7 #[.int .i64 2, .int .i64 a, .int .i64 n, .int .u64 e] w fun r w' => r = .returned (.bool true) ∧ Below w.heap.size w w' := by
  have HV := Lib.hid (show madeV 2 a n e = (headN 2 (bornI e) false a n 0, true) from by unfold madeV packV; rw [if_pos (by decide), hB]; rfl)
  have HB := Lib.hid hB
  have hB' := hB
  simp only [headB, decide_eq_true_eq] at hB'
  obtain ⟨_, _, c1, c2, c3, c4, c5, c6, _, _⟩ := hB'
  clear hB
  go_enter Try.func7, Try.ntmps7
  go_wp2_with (first | (go_at_call 31; refine (made_c 2 a n e h2 h3 ha hn _).mono ?_; rintro r w1 ⟨rfl, hb1⟩; rw [HV.out]; replace hb1 := Lib.hid hb1) | (go_at_call 32; refine (rBorn_c e h2 h3 _).mono ?_; rintro r w2 ⟨rfl, hd⟩; replace hd := Lib.hid hd.below) | (go_at_call 33; refine (rRight_c _ _ _ _ _ _ _).mono ?_; rintro r w3 ⟨rfl, hb3⟩; rw [HB.out]; obtain ⟨hc, hf⟩ := bcell hb3; have hz := hb3.size; simp at hz; replace hb3 := Lib.hid hb3) | (go_at_call 34; refine (awake_c _).mono ?_; rintro r w9 ⟨rfl, hb⟩; replace hb := Lib.hid hb) | (go_at_call 35; refine (rPack_c _ _ _ _ _ _ (by omega) _).mono ?_; rintro r w4 ⟨rfl, hb4⟩; replace hb4 := Lib.hid hb4))
  go_ret
  exact ⟨rfl, by repeat (first | exact Below.refl _ _ | apply pw_below_drewN | refine below_alloc ?_ _ | (refine bT ?_ (Hid.out (by assumption))) | (refine Below.setCell ?_ (by simp <;> omega) _))⟩
theorem lawMade (k a n e : Int) (h2 : 0 ≤ e) (h3 : e < 18446744073709551616) (ha : a < 9223372036854775808) (hn : n < 9223372036854775808) (w : World) :
    Calls Try.prog 7 #[.int .i64 k, .int .i64 a, .int .i64 n, .int .u64 e] w fun r w' => r = .returned (.bool true) ∧ Below w.heap.size w w' := by
  by_cases k1 : k = 1
  · subst k1
    cases hB : headB 1 (bornI e) a n 0 with
    | false => exact lawMade_no1 a n e h2 h3 ha hn hB w
    | true => exact lawMade_yes1 a n e h2 h3 ha hn hB w
  by_cases k2 : k = 2
  · subst k2
    cases hB : headB 2 (bornI e) a n 0 with
    | false => exact lawMade_no2 a n e h2 h3 ha hn hB w
    | true => exact lawMade_yes2 a n e h2 h3 ha hn hB w
  exact lawMade_1 k a n e h2 h3 ha hn k1 k2 w
end Go.Proofs.Ytnphakngfkmpiaa.HeadC
